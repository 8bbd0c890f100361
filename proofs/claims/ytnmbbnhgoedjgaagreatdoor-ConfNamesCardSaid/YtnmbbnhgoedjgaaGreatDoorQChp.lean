/- What a parser's configuration fits, line by line: plain Lean. conf.Parse. -/
import Derived.Test.YtnmbbnhgoedjgaaGreatDoorQChc
import Derived.Test.YtnmbbnhgoedjgaaGreatDoorQCf1
import Derived.Test.YtnmbbnhgoedjgaaGreatDoorQCg5
import Derived.Test.YtnmbbnhgoedjgaaGreatDoorQCg7
namespace Go.Proofs.YtnmbbnhgoedjgaaGreatDoor.Chg
open Go Go.RowKit Go.Proofs.YtnmbbnhgoedjgaaGreatDoor.Ad0 Go.Proofs.YtnmbbnhgoedjgaaGreatDoor.St0 Go.Proofs.YtnmbbnhgoedjgaaGreatDoor.St3 Go.Proofs.YtnmbbnhgoedjgaaGreatDoor.Ru0 Go.Proofs.YtnmbbnhgoedjgaaGreatDoor.Ru1 Go.Proofs.YtnmbbnhgoedjgaaGreatDoor.Ru4 Go.Proofs.YtnmbbnhgoedjgaaGreatDoor.Rw0 Go.Proofs.YtnmbbnhgoedjgaaGreatDoor.Cf0 Go.Proofs.YtnmbbnhgoedjgaaGreatDoor.Cf4 Go.Proofs.YtnmbbnhgoedjgaaGreatDoor.Cg0 Go.Proofs.YtnmbbnhgoedjgaaGreatDoor.Ch1 Go.Proofs.YtnmbbnhgoedjgaaGreatDoor.Ch9 Go.Proofs.YtnmbbnhgoedjgaaGreatDoor.CgP
set_option linter.unusedVariables false
set_option linter.unusedSimpArgs false
structure InvC (k : Nat) (c : ConfM) : Prop where
  ok : OkC c
  ni : c.ifaces.length ≤ k
  nb : c.bogons.length ≤ k
  nt : c.tables.length ≤ k
  nr : c.rules.length ≤ k
  il : ∀ x ∈ c.ifaces, x.name.length ≤ 8192
  tl : ∀ t ∈ c.tables, t.name.length ≤ 8192 ∧ t.l.length ≤ 8192
theorem inv_mono {k j : Nat} {c : ConfM} (h : InvC k c) (hj : k ≤ j) : InvC j c :=
  ⟨h.ok, Nat.le_trans h.ni hj, Nat.le_trans h.nb hj, Nat.le_trans h.nt hj, Nat.le_trans h.nr hj, h.il, h.tl⟩
theorem inv_start : InvC 0 startC := ⟨⟨by simp [startC], by simp [startC], by simp [startC], by simp [startC]⟩, by simp [startC], by simp [startC], by simp [startC], by simp [startC], by simp [startC], by simp [startC]⟩
theorem words_count (l : Wd) : (wordsL l).length ≤ l.length + 1 := by
  unfold wordsL
  refine Nat.le_trans (List.length_filter_le _ _) ?_
  rw [parts_len]
  have := List.count_le_length (a := (32 : UInt8)) (l := l)
  omega
theorem prefs_ok : ∀ (ws : List Wd) (l : List Pfx), prefsOf ws = some l → ∀ p ∈ l, p.ok
  | [], l, h, p, hp => by cases h; cases hp
  | s :: t, l, h, p, hp => by
    have h : (prefOK s).bind (fun p => (prefsOf t).map fun l => p :: l) = some l := h
    cases hs : prefOK s with
    | none => rw [hs] at h; cases h
    | some q =>
      rw [hs] at h
      cases ht : prefsOf t with
      | none => rw [ht] at h; cases h
      | some k =>
        rw [ht] at h
        cases h
        rcases List.mem_cons.1 hp with rfl | hp
        · unfold prefOK at hs
          cases hq : prefL s with
          | none => rw [hq] at hs; cases hs
          | some r =>
            rw [hq] at hs
            simp only [Option.bind_some] at hs
            split at hs
            · cases hs; exact pref_key s _ hq
            · cases hs
        · exact prefs_ok t k ht p hp
theorem iface_fit (w : List Wd) (x : IfaceM) (h : ifaceOf w = some x) : x.addr.ok ∧ x.name.length ≤ 8192 := by
  unfold ifaceOf at h
  split at h
  · split at h
    · rename_i name a m n r md hmr
      cases hp : prefL a with
      | none => rw [hp] at h; cases h
      | some p =>
        rw [hp] at h
        simp only [Option.bind_some] at h
        cases hk : modeOf md with
        | none => rw [hk] at h; cases h
        | some k =>
          rw [hk] at h
          simp only [Option.bind_some] at h
          split at h
          · rename_i hi
            cases h
            simp only [Bool.and_eq_true] at hi
            refine ⟨pref_key a p hp, ?_⟩
            have := name_len _ (isI_facts _ hi.2).1
            simp only at this ⊢
            omega
          · cases h
    · cases h
  · cases h
theorem table_fit (w : List Wd) (x : NamedM) (h : tableOf w = some x) : (∀ p ∈ x.l, p.ok) ∧ x.name.length ≤ 8192 ∧ x.l.length ≤ w.length := by
  unfold tableOf at h
  split at h
  · split at h
    · rename_i a name ps hn
      cases hp : prefsOf ps with
      | none => rw [hp] at h; cases h
      | some l =>
        rw [hp] at h
        cases h
        refine ⟨prefs_ok ps l hp, by have := name_len _ hn; simp only; omega, ?_⟩
        have := prefs_len ps l hp
        simp only [List.length_cons]
        omega
    · cases h
  · cases h
theorem inv_line {k : Nat} {c c' : ConfM} {l h : Wd} {t : List Wd} (hw : t.length ≤ 8192) (hl : lineL c l (h :: t) = some c') (hI : InvC k c) : InvC (k + 1) c' := by
  by_cases k0 : h = wFlows
  · subst k0
    rw [line_flows, Option.map_eq_some_iff] at hl
    obtain ⟨n, -, rfl⟩ := hl
    exact inv_mono ⟨⟨hI.ok.ifaces, hI.ok.bogons, hI.ok.tables, hI.ok.rules⟩, hI.ni, hI.nb, hI.nt, hI.nr, hI.il, hI.tl⟩ (by omega)
  by_cases k1 : h = wErrors
  · subst k1
    rw [line_errors, Option.map_eq_some_iff] at hl
    obtain ⟨n, -, rfl⟩ := hl
    exact inv_mono ⟨⟨hI.ok.ifaces, hI.ok.bogons, hI.ok.tables, hI.ok.rules⟩, hI.ni, hI.nb, hI.nt, hI.nr, hI.il, hI.tl⟩ (by omega)
  by_cases k2 : h = wIface
  · subst k2
    rw [line_iface, Option.map_eq_some_iff] at hl
    obtain ⟨x, hx, rfl⟩ := hl
    have hf := iface_fit _ x hx
    refine ⟨⟨fun y hy => ?_, hI.ok.bogons, hI.ok.tables, hI.ok.rules⟩, by simp; exact hI.ni, Nat.le_succ_of_le hI.nb, Nat.le_succ_of_le hI.nt, Nat.le_succ_of_le hI.nr, fun y hy => ?_, hI.tl⟩
    · rcases List.mem_append.1 hy with hy | hy
      · exact hI.ok.ifaces y hy
      · rw [List.mem_singleton] at hy; subst hy; exact hf.1
    · rcases List.mem_append.1 hy with hy | hy
      · exact hI.il y hy
      · rw [List.mem_singleton] at hy; subst hy; exact hf.2
  by_cases k3 : h = wBogon
  · subst k3
    rw [line_bogon] at hl
    cases hp : prefsOf t with
    | none => rw [hp] at hl; cases hl
    | some q =>
      rw [hp] at hl
      have ho := prefs_ok t q hp
      match q, hl, ho with
      | [p], hl, ho =>
        cases hl
        refine ⟨⟨hI.ok.ifaces, fun y hy => ?_, hI.ok.tables, hI.ok.rules⟩, Nat.le_succ_of_le hI.ni, by simp; exact hI.nb, Nat.le_succ_of_le hI.nt, Nat.le_succ_of_le hI.nr, hI.il, hI.tl⟩
        rcases List.mem_append.1 hy with hy | hy
        · exact hI.ok.bogons y hy
        · exact ho y hy
  by_cases k4 : h = wTable
  · subst k4
    rw [line_table, Option.map_eq_some_iff] at hl
    obtain ⟨x, hx, rfl⟩ := hl
    have hf := table_fit _ x hx
    refine ⟨⟨hI.ok.ifaces, hI.ok.bogons, fun y hy => ?_, hI.ok.rules⟩, Nat.le_succ_of_le hI.ni, Nat.le_succ_of_le hI.nb, by simp; exact hI.nt, Nat.le_succ_of_le hI.nr, hI.il, fun y hy => ?_⟩
    · rcases List.mem_append.1 hy with hy | hy
      · exact hI.ok.tables y hy
      · rw [List.mem_singleton] at hy; subst hy; exact hf.1
    · rcases List.mem_append.1 hy with hy | hy
      · exact hI.tl y hy
      · rw [List.mem_singleton] at hy; subst hy
        refine ⟨hf.2.1, ?_⟩
        have h2 : tableOf (wTable :: t) = some y := hx
        unfold tableOf at h2
        match t, h2, hw with
        | nm :: ps, h2, hw =>
          simp only at h2
          split at h2
          · rw [Option.map_eq_some_iff] at h2
            obtain ⟨q, hq, rfl⟩ := h2
            have := prefs_len _ _ hq
            simp at hw
            simp only
            omega
          · cases h2
  have hk : h ∉ kinds := by simp [kinds, k0, k1, k2, k3, k4]
  rw [line_rule c l h t hk, Option.map_eq_some_iff] at hl
  obtain ⟨r, hr, rfl⟩ := hl
  have hf := parsed_fits _ r hr
  refine ⟨⟨hI.ok.ifaces, hI.ok.bogons, hI.ok.tables, fun y hy => ?_⟩, Nat.le_succ_of_le hI.ni, Nat.le_succ_of_le hI.nb, Nat.le_succ_of_le hI.nt, by simp; exact hI.nr, hI.il, hI.tl⟩
  rcases List.mem_append.1 hy with hy | hy
  · exact hI.ok.rules y hy
  · rw [List.mem_singleton] at hy; subst hy; exact hf.2
theorem inv_step {k : Nat} {c c' : ConfM} {l : Wd} (hl : l.length ≤ 8192) (h : stepL c l = some c') (hI : InvC k c) : InvC (k + 1) c' := by
  unfold stepL at h
  split at h
  · cases h; exact inv_mono hI (by omega)
  · cases hw : wordsL l with
    | nil => rw [hw] at h; cases h; exact inv_mono hI (by omega)
    | cons a t =>
      rw [hw] at h
      have := words_count l
      rw [hw] at this
      exact inv_line (by simp at this; omega) h hI
theorem inv_fit {k : Nat} {c : ConfM} (h : InvC k c) (hk : k ≤ 1048576) : FitC c :=
  ⟨h.ok, by have := h.ni; omega, by have := h.nb; omega, by have := h.nt; omega, by have := h.nr; omega, fun x hx => by have := h.il x hx; omega, fun t ht => by have := h.tl t ht; omega, fun _ => by have := h.nt; omega⟩
theorem runL_snoc (a : List Wd) (l : Wd) (c c1 : ConfM) (h : runL c a = some c1) : runL c (a ++ [l]) = stepL c1 l := by
  rw [runL_append, h]
  show (stepL c1 l).bind (fun c' => runL c' []) = _
  cases stepL c1 l <;> rfl
theorem parts_le (c : UInt8) : ∀ (l : List UInt8), ∀ x ∈ parts c l, x.length ≤ l.length := by
  intro l x hx
  have h := split_parts c (⟨l.toArray⟩ : ByteArray)
  have e : (⟨l.toArray⟩ : ByteArray).data.toList = l := rfl
  rw [e] at h
  rw [← h] at hx
  obtain ⟨y, hy, rfl⟩ := List.mem_map.1 hx
  have := split_le (⟨l.toArray⟩ : ByteArray) (c := c) y hy
  have h3 : (⟨l.toArray⟩ : ByteArray).size = l.length := List.size_toArray
  rw [h3] at this
  exact this
/-- A line that is none ends it. -/
theorem go_stop (ls : List Wd) (k : Nat) (l : Wd) (c : ConfM) (h : runL startC (ls.take k) = some c) (hl : ls[k]? = some l) (hs : stepL c l = none) : goL startC 0 ls = ({}, ((k + 1 : Nat) : Int), 2) := by
  have hk := (List.getElem?_eq_some_iff.1 hl).1
  have e : ls = ls.take k ++ l :: ls.drop (k + 1) := by
    rw [← (List.getElem?_eq_some_iff.1 hl).2, List.getElem_cons_drop, List.take_append_drop]
  rw [e, goL_append _ _ _ _ _ h]
  unfold goL
  rw [hs]
  have : (ls.take k).length = k := by rw [List.length_take]; omega
  rw [this]
  simp
theorem go_end (ls : List Wd) (c : ConfM) (h : runL startC ls = some c) : goL startC 0 ls = endC c := goL_run ls startC c 0 h
theorem end_untold (c : ConfM) (h : ¬ 0 ≤ c.errors) : endC c = ({}, 0, 2) := by
  have : checkC c = (2, []) := by unfold checkC; simp [isC, h]
  unfold endC
  rw [this]
  rfl
end Go.Proofs.YtnmbbnhgoedjgaaGreatDoor.Chg

namespace Go.Proofs.YtnmbbnhgoedjgaaGreatDoor.Chp
open Go Go.RowKit Go.Proofs.YtnmbbnhgoedjgaaGreatDoor.Ad0 Go.Proofs.YtnmbbnhgoedjgaaGreatDoor.Ad1 Go.Proofs.YtnmbbnhgoedjgaaGreatDoor.St0 Go.Proofs.YtnmbbnhgoedjgaaGreatDoor.St1 Go.Proofs.YtnmbbnhgoedjgaaGreatDoor.St2 Go.Proofs.YtnmbbnhgoedjgaaGreatDoor.St3 Go.Proofs.YtnmbbnhgoedjgaaGreatDoor.Ru0 Go.Proofs.YtnmbbnhgoedjgaaGreatDoor.Ru3 Go.Proofs.YtnmbbnhgoedjgaaGreatDoor.Ru4 Go.Proofs.YtnmbbnhgoedjgaaGreatDoor.Ru5 Go.Proofs.YtnmbbnhgoedjgaaGreatDoor.Ru6 Go.Proofs.YtnmbbnhgoedjgaaGreatDoor.RuB Go.Proofs.YtnmbbnhgoedjgaaGreatDoor.RuC Go.Proofs.YtnmbbnhgoedjgaaGreatDoor.RuE Go.Proofs.YtnmbbnhgoedjgaaGreatDoor.RuI Go.Proofs.YtnmbbnhgoedjgaaGreatDoor.RuY Go.Proofs.YtnmbbnhgoedjgaaGreatDoor.Cf0 Go.Proofs.YtnmbbnhgoedjgaaGreatDoor.Cf4 Go.Proofs.YtnmbbnhgoedjgaaGreatDoor.Cg0 Go.Proofs.YtnmbbnhgoedjgaaGreatDoor.Ch4 Go.Proofs.YtnmbbnhgoedjgaaGreatDoor.Ch7 Go.Proofs.YtnmbbnhgoedjgaaGreatDoor.CgB Go.Proofs.YtnmbbnhgoedjgaaGreatDoor.CgL Go.Proofs.YtnmbbnhgoedjgaaGreatDoor.Chb Go.Proofs.YtnmbbnhgoedjgaaGreatDoor.Chc Go.Proofs.YtnmbbnhgoedjgaaGreatDoor.RuX Go.Proofs.YtnmbbnhgoedjgaaGreatDoor.Chg Go.Proofs.YtnmbbnhgoedjgaaGreatDoor.Cg2 Go.Proofs.YtnmbbnhgoedjgaaGreatDoor.Cg5 Go.Proofs.YtnmbbnhgoedjgaaGreatDoor.Cg9 Go.Proofs.YtnmbbnhgoedjgaaGreatDoor.CgC
set_option linter.unusedVariables false
set_option linter.unusedSimpArgs false
/-- A result out of a box, and two beside it. -/
theorem box_ret3 {P : Program} {fn : Func} {R : Ending → World → Prop} {a : Act} {w : World} {t u u' : Tmp} {T : TypeId} {v v' : Value} {g : Nat} {c : Array Value} {fr : Nat × Nat} {fs : Array Field}
    (hc : w.heap[g]? = some (.cells c T fr)) (h : fn.results = #[.cell t T, .tmp u, .tmp u'])
    (ht : a.tmps.getD t undef = .pointer (some ⟨g, 0, none⟩)) (hv : a.tmps.getD u undef = v) (hv' : a.tmps.getD u' undef = v') (hu : P.underlying T = some (.struct fs)) (hi : (P.info? T).map (·.size) = some c.size)
    (hd : a.defers = []) (hR : R (.returned (.tuple #[.agg c, v, v'])) w) : bodyPost P fn R .ret a w := by
  refine bodyPost_ret ?_ hd hR
  have hl := run_loadVar_row (P := P) _ _ T T c fr _ hc hu rfl hi
  unfold results
  rw [h]
  have e1 : (asAddr (a.tmps.getD t undef)).run P w = .ok ⟨g, 0, none⟩ w := by rw [ht]; rfl
  simp only [List.mapM_toArray, List.mapM_cons, List.mapM_nil, Array.mapM_eq_mapM_toList, Sem.run_bind, Sem.run_pure, Result.andThen, e1, hl, hv, hv', bind_assoc, pure_bind]
  have e2 : (asAddr (a.tmps[t]?.getD undef)).run P w = .ok ⟨g, 0, none⟩ w := by simpa using e1
  simp [Sem.run_bind, Sem.run_pure, Result.andThen, e2, hl, hv, hv']
/-- What a parser answers. -/
def ParseGot (W : World) (r : ConfM × Int × Int) (e : Ending) (w' : World) : Prop := ∃ v0 v1 v2 v3 ts, e = .returned (.tuple #[.agg (confC v0 v1 v2 v3 r.1), .int .i64 r.2.1, .int .i64 r.2.2]) ∧ ConfIn w' v0 v1 v2 v3 ts r.1 ∧ Below W.heap.size W w'
theorem conf_none (W : World) : ConfIn W (.slice none 0 0) (.slice none 0 0) (.slice none 0 0) (.slice none 0 0) [] {} :=
  ⟨Sl.nil W, Sl.nil W, Sl.nil W, Sl.nil W, rfl, fun t ht => by simp at ht⟩
theorem got_zero {W w' : World} {a b : Int} {r : ConfM × Int × Int} {e : Ending} (h : r = ({}, a, b)) (he : e = .returned (.tuple #[.agg (confC (.slice none 0 0) (.slice none 0 0) (.slice none 0 0) (.slice none 0 0) {}), .int .i64 a, .int .i64 b])) (hb : Below W.heap.size W w') : ParseGot W r e w' := by
  subst h
  exact ⟨_, _, _, _, [], he, conf_none w', hb⟩
theorem blank_pays (w : World) : PredAt Tryz.prog 26 #[] encR (fun r => r == 32) w := by
  intro W r _
  unfold FnGives encR
  go_enter Tryz.func26, Tryz.ntmps26
  go_wp2
  go_ret
  exact ⟨by rw [show ((r : Int) == 32) = (r == 32) from by rw [Bool.eq_iff_iff]; simp; omega]; rfl, 0, rfl⟩
/-- The words of a line, in memory. -/
theorem fields_got (s : Wd) (hs : s.length < 4294967281) (w : World) :
    Calls Tryz.prog 25 #[.string ⟨s.toArray⟩, .func (.func 26) #[] #[]] w fun e w' => ∃ A, e = .returned (.slice (some ⟨A, 0, none⟩) (wordsL s).length (wordsL s).length) ∧ w.heap.size ≤ A ∧ A < w'.heap.size ∧
      w'.rangeAt A 0 ((wordsL s).map fun x => Value.string ⟨x.toArray⟩) ∧ (∀ x ∈ wordsL s, x.length < 4294967281) ∧ Below w.heap.size w w' := by
  refine (Tryz.strings_FieldsFunc 26 #[] (enters_of Tryz.func26 (by kernel_rfl) rfl) (fun r => r == 32) ⟨s.toArray⟩ w (by simp [ByteArray.size]; omega) (blank_pays w)).mono ?_
  rintro e w' ⟨A, rfl, hA, ho, hb⟩
  have hf := fields_words ⟨s.toArray⟩
  have hl := fields_len ⟨s.toArray⟩
  have e0 : (⟨s.toArray⟩ : ByteArray).data.toList = s := rfl
  rw [e0] at hf
  generalize Lib.goFieldsP (fun r => r == 32) ⟨s.toArray⟩ = xs at ho hf hl
  rw [← hf]
  rw [List.length_map]
  refine ⟨A, rfl, hA, ?_, ?_, ?_, hb⟩
  · rcases ho.2 with ⟨h1, _⟩ | ⟨g, cap, cur, hv, hbg, hg, h3⟩
    · cases h1
    · injection hv with h4
      injection h4 with h5
      injection h5 with h6
      subst h6
      exact blk_lt' hg
  · intro j x hj
    rw [Nat.zero_add, List.getElem?_map, List.getElem?_map] at *
    cases hx : xs[j]? with
    | none => rw [hx] at hj; cases hj
    | some b =>
      rw [hx] at hj
      cases hj
      have hjl : j < xs.length := (List.getElem?_eq_some_iff.1 hx).1
      have := ho.cellAt (g := A) (j := j) (by simpa using hjl)
      rw [this, List.getElem?_map, hx]
      rfl
  · intro x hx
    obtain ⟨b, hb1, rfl⟩ := List.mem_map.1 hx
    have := hl b hb1
    have h3 : (⟨s.toArray⟩ : ByteArray).size = s.length := List.size_toArray
    rw [h3] at this
    rw [← size_data]
    omega
/-- The errors as the configuration bears them. -/
def setE (c : ConfM) : ConfM := { c with errors := if 0 ≤ c.errors then c.errors else 0 }
theorem conf_one {W : World} {v0 v1 v2 v3 : Value} {ts : List (NamedM × Value)} {c : ConfM} (h : ConfIn W v0 v1 v2 v3 ts c) (c' : ConfM) : (confC v0 v1 v2 v3 c').all (·.oneCell') = true := by
  obtain ⟨A0, k0, e0, -⟩ := h.ifaces
  obtain ⟨A1, k1, e1, -⟩ := h.bogons
  obtain ⟨A2, k2, e2, -⟩ := h.tables
  obtain ⟨A3, k3, e3, -⟩ := h.rules
  subst e0 e1 e2 e3
  simp [confC, Value.oneCell']
theorem grown_sets (w : World) (g o : Nat) (l : List Value) : w.grownBy (w.setCells g o l) (some g) :=
  ⟨(Mem.puts_os l o w).1, (Mem.puts_os l o w).2.1, (Mem.puts_os l o w).2.2, by rw [Mem.puts_size]; exact Nat.le_refl _, fun k _ hk => Mem.puts_other (fun e => hk (by rw [e])) l o w⟩
theorem skip_head (a : UInt8) (h : Wd) (t : List Wd) : skipW ((a :: h) :: t) = (a == 35) := by
  show ((some a : Option UInt8) == some 35) = (a == 35)
  rfl
def ix (x i : Value) : Sem Value := Instr.index 9 x i
theorem ix_eq (x i : Value) : Instr.index 9 x i = ix x i := rfl
theorem str_index (a : UInt8) (h : List UInt8) (w : World) : (ix (.string ⟨(a :: h).toArray⟩) (.int .i64 0)).run Tryz.prog w = .ok (.int .u8 (a.toNat : Nat)) w := by
  unfold ix
  have hu := Tryz.underlying9
  unfold Instr.index
  simp [run_underlying hu, asIntOf]
  have e : (⟨(a :: h).toArray⟩ : ByteArray)[0]? = some a := rfl
  rw [e]
  rfl
theorem word_ne (l : Wd) (h : Wd) (t : List Wd) (hw : wordsL l = h :: t) : ∃ a h', h = a :: h' := by
  have : h ∈ wordsL l := by rw [hw]; simp
  unfold wordsL at this
  have := (List.mem_filter.1 this).2
  cases h with
  | nil => simp at this
  | cons a h' => exact ⟨a, h', rfl⟩
attribute [local go_sem ↓] ix_eq
set_option maxRecDepth 100000 in
set_option maxHeartbeats 8000000 in
theorem parse_any (HI : IsIfaceSaid) (HPr : PrintedSaid) (s : Wd) (hs : s.length ≤ 8192) (W : World) (hl : LibOK W) :
    Calls Tryz.prog 9 #[.string ⟨s.toArray⟩] W fun e w' => ParseGot W (parseC s) e w' := by
  obtain ⟨m, hm⟩ := hl.maxLen
  have HL := Lib.hid (fun W' (hb : Below W.heap.size W W') => hl.below hb)
  obtain ⟨ls, hls⟩ : ∃ ls, ls = parts 10 s := ⟨_, rfl⟩
  have HG := Lib.hid (show parseC s = goL startC 0 ls by unfold parseC; rw [if_neg (by omega), hls])
  have hz : (⟨s.toArray⟩ : ByteArray).size = s.length := by simp [ByteArray.size]
  have hp := split_parts 10 ⟨s.toArray⟩
  have e0 : (⟨s.toArray⟩ : ByteArray).data.toList = s := rfl
  rw [e0, ← hls] at hp
  have hlen : (Lib.splitB ⟨#[10]⟩ 0 (Lib.countB ⟨s.toArray⟩ ⟨#[10]⟩) ⟨s.toArray⟩).length = Lib.countB ⟨s.toArray⟩ ⟨#[10]⟩ + 1 := Lib.splitB_all ⟨#[10]⟩ (by decide) 0 _ ⟨s.toArray⟩ rfl
  have hnl : ls.length ≤ 8193 := by
    rw [hls, parts_len]
    have := List.count_le_length (a := (10 : UInt8)) (l := s)
    omega
  have Hle := Lib.hid (fun x (hx : x ∈ ls) => Nat.le_trans (parts_le 10 s x (by rw [← hls]; exact hx)) hs)
  have hsz : ¬ ((8192 : Int) < s.length) := by omega
  have HSp := Lib.hid (fun W' (hb : Below W.heap.size W W') => Tryz.strings_Split ⟨s.toArray⟩ ⟨#[10]⟩ m W' (by rw [hz]; omega) ((hb.cell (World.block_lt_of_cell? W _ hm)).trans hm) (by decide))
  generalize Lib.splitB ⟨#[10]⟩ 0 (Lib.countB ⟨s.toArray⟩ ⟨#[10]⟩) ⟨s.toArray⟩ = bs at HSp hp hlen
  have hbl : bs.length = ls.length := by rw [← hp, List.length_map]
  have hbs : bs.map Value.string = ls.map fun x => Value.string ⟨x.toArray⟩ := by
    rw [← hp, List.map_map]
    rfl
  have HSp := Lib.hid (show ∀ W', Below W.heap.size W W' → Calls Tryz.prog 24 #[.string ⟨s.toArray⟩, .string ⟨#[10]⟩] W' fun e w' => e = .returned (.slice (some ⟨W'.heap.size, 0, none⟩) ls.length ls.length) ∧ w' = W'.alloc (.cells (ls.map fun x => Value.string ⟨x.toArray⟩).toArray 9) by
    have h := HSp.out
    rw [← hlen, hbl, hbs] at h
    exact h)
  obtain ⟨LV, hLV⟩ : ∃ LV, LV = (ls.map fun x => Value.string ⟨x.toArray⟩) := ⟨_, rfl⟩
  rw [← hLV] at HSp
  have HLV := Lib.hid hLV
  have HB0 := Lib.hid (((Below.refl W.heap.size W).alloc (Nat.le_refl _) (.cells #[.slice none 0 0, .slice none 0 0, .slice none 0 0, .slice none 0 0, .int .i64 0, .int .i64 0] 27)).alloc (by simp) (.cells #[.slice none 0 0, .slice none 0 0, .slice none 0 0, .slice none 0 0, .int .i64 0, .int .i64 0, .bool false, .bool false] 54))
  have HW : Hid (∀ W0, W0 = ((W.alloc (.cells #[.slice none 0 0, .slice none 0 0, .slice none 0 0, .slice none 0 0, .int .i64 0, .int .i64 0] 27)).alloc (.cells #[.slice none 0 0, .slice none 0 0, .slice none 0 0, .slice none 0 0, .int .i64 0, .int .i64 0, .bool false, .bool false] 54)).alloc (.cells LV.toArray 9) → W0.heap[W.heap.size]? = some (.cells #[.slice none 0 0, .slice none 0 0, .slice none 0 0, .slice none 0 0, .int .i64 0, .int .i64 0] 27 (0, 0)) ∧ W0.heap[W.heap.size + 1]? = some (.cells #[.slice none 0 0, .slice none 0 0, .slice none 0 0, .slice none 0 0, .int .i64 0, .int .i64 0, .bool false, .bool false] 54 (0, 0)) ∧ W0.heap[W.heap.size + 2]? = some (.cells LV.toArray 9 (0, 0)) ∧ W0.heap.size = W.heap.size + 3 ∧ Below W.heap.size W W0) := by
    rintro W0 rfl
    refine ⟨?_, ?_, ?_, by simp, HB0.out.alloc (by simp; omega) _⟩
    · exact (row_step (row_step (Lib.hid (heap_alloc_new W _)) (bnew _ _)) (bnew _ _)).out
    · have h := heap_alloc_new (W.alloc (.cells #[.slice none 0 0, .slice none 0 0, .slice none 0 0, .slice none 0 0, .int .i64 0, .int .i64 0] 27)) (.cells #[.slice none 0 0, .slice none 0 0, .slice none 0 0, .slice none 0 0, .int .i64 0, .int .i64 0, .bool false, .bool false] 54)
      have h2 := (row_step (Lib.hid h) (bnew _ (.cells LV.toArray 9))).out
      simpa using h2
    · have h := heap_alloc_new ((W.alloc (.cells #[.slice none 0 0, .slice none 0 0, .slice none 0 0, .slice none 0 0, .int .i64 0, .int .i64 0] 27)).alloc (.cells #[.slice none 0 0, .slice none 0 0, .slice none 0 0, .slice none 0 0, .int .i64 0, .int .i64 0, .bool false, .bool false] 54)) (.cells LV.toArray 9)
      simpa using h
  clear hls hz hp e0 hlen hbl hbs hm hl hLV
  go_enter Tryz.func9, Tryz.ntmps9
  go_wp2_with (go_at_call 24; (with_reducible refine (HSp.out _ HB0.out).mono ?_); rintro e w1 ⟨rfl, hw1⟩)
  obtain ⟨W0, hW0⟩ : ∃ W0, W0 = ((W.alloc (.cells #[.slice none 0 0, .slice none 0 0, .slice none 0 0, .slice none 0 0, .int .i64 0, .int .i64 0] 27)).alloc (.cells #[.slice none 0 0, .slice none 0 0, .slice none 0 0, .slice none 0 0, .int .i64 0, .int .i64 0, .bool false, .bool false] 54)).alloc (.cells LV.toArray 9) := ⟨_, rfl⟩
  have HF := HW.out W0 hW0
  rw [← hW0]
  have HF := Lib.hid HF
  clear hW0 HW hw1
  go_loopw [20] (fun s20 wr => ∃ (k : Nat) (c : ConfM) (v0 v1 v2 v3 : Value) (ts : List (NamedM × Value)), k ≤ ls.length ∧ s20 = .int .i64 k ∧ runL startC (ls.take k) = some c ∧ InvC k c ∧ RdrAt (W.heap.size + 1) W0.heap.size v0 v1 v2 v3 ts c wr ∧ Keep W0.heap.size (W.heap.size + 1) W0 wr) (fun s20 _ => ls.length - (intOf s20).toNat)
  case atStart => exact ⟨0, startC, _, _, _, _, [], by omega, rfl, rfl, inv_start, ⟨HF.out.2.1, Rd.start _ _ _ ⟨rfl, rfl, rfl, rfl⟩, by have := HF.out.2.2.2.1; omega, Nat.le_refl _⟩, Keep.refl _ _ _⟩
  case round =>
    obtain ⟨k, c, v0, v1, v2, v3, ts, hkl, rfl, hrun, hinv, hrd, hk⟩ := hrel
    have HRun := Lib.hid hrun
    have HInv := Lib.hid hinv
    have HRd := Lib.hid hrd
    have HKp := Lib.hid hk
    have HBW := Lib.hid (show Below W.heap.size W wr from HF.out.2.2.2.2.trans ((hk.low (by have := HF.out.2.2.2.1; omega)).mono (by omega)))
    have HLr := Lib.hid ((hk.block (W.heap.size + 2) (by have := HF.out.2.2.2.1; omega) (by omega)).trans HF.out.2.2.1)
    have HZr := Lib.hid ((hk.block W.heap.size (by have := HF.out.2.2.2.1; omega) (by omega)).trans HF.out.1)
    clear hrun hinv hrd hk
    by_cases hlt : k < ls.length
    · have hlt' : (k : Int) < ls.length := by omega
      have hk63 : (k : Int) + 1 ≤ 9223372036854775807 := by omega
      obtain ⟨l, hx⟩ : ∃ l, ls[k]? = some l := ⟨_, List.getElem?_eq_getElem hlt⟩
      have hll := Hle.out l (List.mem_of_getElem? hx)
      have c0 : wr.cell? ⟨W.heap.size + 2, k, none⟩ = some (.string ⟨l.toArray⟩) := (cell_of_row _ _ k _ _ _ HLr.out).trans (by
        rw [HLV.out]
        simp [hx])
      have HTk := Lib.hid (show runL startC (ls.take (k + 1)) = stepL c l by rw [List.take_add_one, hx, Option.toList_some, runL_snoc _ _ _ _ HRun.out])
      have HSt := Lib.hid (fun hs => go_stop ls k l c HRun.out hx hs)
      have KF := Lib.hid (fun W' => fields_got l (by omega) W')
      clear hx
      cases hw : wordsL l with
      | nil =>
        rw [hw] at KF
        have HS := Lib.hid (show stepL c l = some c by unfold stepL; rw [hw]; rfl)
        clear hw
        go_wp2_with (go_at_call 25; (with_reducible refine (KF.out _).mono ?_); rintro e w1 ⟨A, rfl, hA, hA2, hr, hsz, hb1⟩; have HRd := Lib.hid (HRd.out.below hb1); have HKp := Lib.hid (HKp.out.below hb1 (HKp.out.size)); clear hb1 hr hsz hA hA2)
        go_roundw
        case rel => exact ⟨k + 1, c, _, _, _, _, _, by omega, by go_num, HTk.out.trans HS.out, inv_mono HInv.out (by omega), HRd.out, HKp.out⟩
        case measure => simp only [intOf]; go_num
      | cons h t =>
        obtain ⟨a, h', rfl⟩ := word_ne l h t hw
        have HW := Lib.hid hw
        have hwc := words_count l
        rw [hw] at KF hwc
        have hta : t.length ≤ 8193 := by simp at hwc; omega
        have hlen : ((a :: h') :: t).length = t.length + 1 := rfl
        obtain ⟨N, hN⟩ : ∃ N, N = t.length + 1 := ⟨_, rfl⟩
        rw [hlen, ← hN] at KF
        have HN := Lib.hid hN
        have hN0 : (0 : Int) < (N : Int) := by omega
        have hN1 : 0 < N := by omega
        clear hw hwc hlen hN
        obtain ⟨bh, hbh⟩ : ∃ bh : ByteArray, bh = ⟨(a :: h').toArray⟩ := ⟨_, rfl⟩
        have hix : ∀ w, (ix (.string bh) (.int .i64 0)).run Tryz.prog w = .ok (.int .u8 (a.toNat : Nat)) w := fun w => by subst hbh; exact str_index a h' w
        obtain ⟨n, hn⟩ : ∃ n : Int, n = (a.toNat : Nat) := ⟨_, rfl⟩
        rw [← hn] at hix
        have Hn := Lib.hid hn
        clear hn
        have HBh := Lib.hid hbh
        clear hbh
        by_cases ha : a = 35
        · have HS := Lib.hid (show stepL c l = some c by unfold stepL; rw [HW.out, skip_head, ha]; rfl)
          have hb5 : n = 35 := by rw [Hn.out, ha]; rfl
          rw [hb5] at hix
          clear ha hb5
          go_wp2_with (go_at_call 25; (with_reducible refine (KF.out _).mono ?_); rintro e w1 ⟨A, rfl, hA, hA2, hr, hsz, hb1⟩; have HRd := Lib.hid (HRd.out.below hb1); have HKp := Lib.hid (HKp.out.below hb1 (HKp.out.size)); have d0 : w1.cell? ⟨A, 0, none⟩ = some (.string bh) := (hr 0 _ rfl).trans (by rw [HBh.out]); clear hb1 hr hsz hA hA2)
          go_roundw
          case rel => exact ⟨k + 1, c, _, _, _, _, _, by omega, by go_num, HTk.out.trans HS.out, inv_mono HInv.out (by omega), HRd.out, HKp.out⟩
          case measure => simp only [intOf]; go_num
        · have HSl := Lib.hid (show stepL c l = lineL c l ((a :: h') :: t) by
            unfold stepL
            rw [HW.out, skip_head, show (a == 35) = false by simpa using ha]
            rfl)
          have hb5 : (n != 35) = true := by
            rw [Hn.out, bne_iff_ne]
            intro e
            have e : a.toNat = 35 := by omega
            exact ha (UInt8.toNat_inj.1 (by rw [e]; rfl))
          clear ha
          have KL := Lib.hid (fun W' (A : Nat) (hA : A < W'.heap.size) (hr : W'.rangeAt A 0 (((a :: h') :: t).map fun x => Value.string ⟨x.toArray⟩)) (hz : ∀ x ∈ (a :: h') :: t, x.length < 4294967281) (hL : LibOK W') (hR : RdrAt (W.heap.size + 1) W0.heap.size v0 v1 v2 v3 ts c W') => line_any HI (W.heap.size + 1) W0.heap.size v0 v1 v2 v3 ts c (by have := HInv.out.ni; omega) (by have := HInv.out.nb; omega) (by have h1 := HInv.out.nt; have h2 := hR.rd.conf.tlen; omega) (by have := HInv.out.nr; omega) l (by omega) (a :: h') t A 0 N W' hA (by have := HN.out; omega) (by omega) (fun x hx => hz x (List.mem_cons_of_mem _ hx)) hr hL hR)
          unfold LineGot at KL
          rw [← HN.out] at KL
          cases hst : lineL c l ((a :: h') :: t) with
          | none =>
            rw [hst] at KL
            have HZ := Lib.hid (HG.out.trans (HSt.out (HSl.out.trans hst)))
            clear hst
            go_wp2_with (first
              | (go_at_call 25; (with_reducible refine (KF.out _).mono ?_); rintro e w1 ⟨A, rfl, hA, hA2, hr, hsz, hb1⟩; have HRd := Lib.hid (HRd.out.below hb1); have HKp := Lib.hid (HKp.out.below hb1 (HKp.out.size)); have HBW := Lib.hid (bstep HBW.out hb1 HBW.out.size); have d0 : w1.cell? ⟨A, 0, none⟩ = some (.string bh) := (hr 0 _ rfl).trans (by rw [HBh.out]); have HZr := row_step HZr hb1; have K2 := Lib.hid (KL.out w1 A hA2 hr hsz (HL.out _ HBW.out) HRd.out); clear hb1 hr hsz hA hA2)
              | (go_at_call 27; (with_reducible refine K2.out.mono ?_); rintro e w2 ⟨rfl, hk2⟩; have HKp2 := Lib.hid hk2; have HZr := Lib.hid ((hk2.block W.heap.size (by have := HF.out.2.2.2.1; omega) (by omega)).trans HZr.out); clear hk2)
              | ((with_reducible refine Mem.store_part W.heap.size 0 #[Value.slice none 0 0, .slice none 0 0, .slice none 0 0, .slice none 0 0, .int .i64 0, .int .i64 0] ?_ ?_ HZr.out ?_ ?_ ?_ ?_ ?_); rfl; rfl; exact Nat.le_of_ble_eq_true rfl; kernel_rfl; kernel_rfl; rfl))
            exact box_ret3 (Mem.puts_row _ 0 HZr.out) rfl rfl rfl rfl Tryz.underlying27 (by kernel_rfl) rfl (got_zero HZ.out rfl (Mem.puts_below (HBW.out.trans ((HKp2.out.low (by have := HF.out.2.2.2.1; omega)).mono (by omega))) (Nat.le_refl _) _ 0))
          | some c' =>
            rw [hst] at KL
            have HZ := Lib.hid (HSl.out.trans hst)
            clear hst
            go_wp2_with (first
              | (go_at_call 25; (with_reducible refine (KF.out _).mono ?_); rintro e w1 ⟨A, rfl, hA, hA2, hr, hsz, hb1⟩; have HRd := Lib.hid (HRd.out.below hb1); have HKp := Lib.hid (HKp.out.below hb1 (HKp.out.size)); have HBW := Lib.hid (bstep HBW.out hb1 HBW.out.size); have d0 : w1.cell? ⟨A, 0, none⟩ = some (.string bh) := (hr 0 _ rfl).trans (by rw [HBh.out]); have K2 := Lib.hid (KL.out w1 A hA2 hr hsz (HL.out _ HBW.out) HRd.out); clear hb1 hr hsz hA hA2)
              | (go_at_call 27; (with_reducible refine K2.out.mono ?_); rintro e w2 ⟨rfl, ⟨z0, z1, z2, z3, us, hr2⟩, hk2⟩; have HRd := Lib.hid hr2; have HKp := Lib.hid (HKp.out.trans hk2); clear hk2 hr2))
            go_roundw
            case rel => exact ⟨k + 1, c', _, _, _, _, _, by omega, by go_num, HTk.out.trans HZ.out, inv_step hll HZ.out HInv.out, HRd.out, HKp.out⟩
            case measure => simp only [intOf]; go_num
    · obtain rfl : k = ls.length := by omega
      have HRun := Lib.hid (show runL startC ls = some c by have h := HRun.out; rwa [List.take_length] at h)
      have HEnd := Lib.hid (HG.out.trans (go_end ls c HRun.out))
      have HInv := Lib.hid (inv_mono HInv.out hkl)
      have HCf := Lib.hid (show FitC (setE c) from by
        have h := inv_fit HInv.out (by omega)
        exact ⟨⟨h.ok.ifaces, h.ok.bogons, h.ok.tables, h.ok.rules⟩, h.ni, h.nb, h.nt, h.nr, h.il, h.tl, fun _ => by have := HInv.out.nt; show c.tables.length ≤ _; omega⟩)
      have KC := fun W' (hb : Below wr.heap.size wr W') => check_conf HI HPr (setE c) v0 v1 v2 v3 ts W' (show ConfIn W' v0 v1 v2 v3 ts (setE c) from by
        have h := (HRd.out.below hb).rd.conf
        exact ⟨h.ifaces, h.bogons, h.tables, h.rules, h.tab, h.tin⟩) HCf.out (HL.out _ (HBW.out.trans (hb.mono HBW.out.size)))
      have HX := Lib.hid (show (rdC v0 v1 v2 v3 c).extract 0 (0 + 6) = confC v0 v1 v2 v3 (setE c) from rfl)
      have HI6 := Lib.hid (Cg2.info6 v0 v1 v2 v3 (setE c))
      have hge : ¬ (ls.length : Int) < ls.length := by omega
      have HOne := Lib.hid (conf_one HRd.out.rd.conf (setE c))
      have KC := Lib.hid KC
      have HV := Lib.hid (show checkV (setE c) = .tuple #[.int .i64 (checkC (setE c)).1, .string ⟨(checkC (setE c)).2.toArray⟩] from rfl)
      obtain ⟨E, hE⟩ : ∃ E : Int, E = (checkC (setE c)).1 := ⟨_, rfl⟩
      obtain ⟨nm, hnm⟩ : ∃ nm : Wd, nm = (checkC (setE c)).2 := ⟨_, rfl⟩
      have KC := Lib.hid (show ∀ W', Below wr.heap.size wr W' → Calls Tryz.prog 16 #[.agg (confC v0 v1 v2 v3 (setE c))] W' (fun e w' => e = .returned (.tuple #[.int .i64 E, .string ⟨nm.toArray⟩]) ∧ Below W'.heap.size W' w') from by
        have h := KC.out
        rw [HV.out, ← hE, ← hnm] at h
        exact h)
      have HE := Lib.hid hE
      clear hE hnm hlt
      by_cases he : 0 ≤ c.errors
      rotate_left
      · have HZ := Lib.hid (HEnd.out.trans (end_untold c he))
        have hd : decide (0 ≤ c.errors) = false := by simpa using he
        clear he
        go_wp2_with (first
          | ((with_reducible refine Mem.load_part (W.heap.size + 1) 0 6 ?_ HRd.out.row HX.out Tryz.underlying27 HI6.out ?_ ?_); rfl; rfl)
          | (go_at_call 16; (with_reducible refine (KC.out _ (Below.refl _ _)).mono ?_); rintro e w1 ⟨rfl, hb1⟩; have HRd := Lib.hid (HRd.out.below hb1); have HZr := row_step HZr hb1; have HBW := Lib.hid (bstep HBW.out hb1 HBW.out.size); have d7 : w1.cell? ⟨W.heap.size + 1, 7, none⟩ = some (.bool (decide (0 ≤ c.errors))) := (cell_of_row _ _ 7 _ _ _ HRd.out.row).trans rfl; clear hb1)
          | ((with_reducible refine Mem.store_part W.heap.size 0 (#[Value.slice none 0 0, .slice none 0 0, .slice none 0 0, .slice none 0 0, .int .i64 0, .int .i64 0]) ?_ ?_ HZr.out ?_ ?_ ?_ ?_ ?_); rfl; rfl; exact Nat.le_of_ble_eq_true rfl; kernel_rfl; kernel_rfl; rfl))
        exact box_ret3 (Mem.puts_row _ 0 HZr.out) rfl rfl rfl rfl Tryz.underlying27 (by kernel_rfl) rfl (got_zero HZ.out rfl (Mem.puts_below HBW.out (Nat.le_refl _) _ 0))
      · have hsE : setE c = c := by unfold setE; rw [if_pos he]
        have hd : decide (0 ≤ c.errors) = true := by simpa using he
        by_cases hE : E = 0
        · have HZ := Lib.hid (show parseC s = (c, 0, 0) by rw [HEnd.out]; unfold endC; rw [← hsE, ← HE.out, hE]; rfl)
          subst hE
          have Hs := Lib.hid hsE
          clear he hsE
          go_wp2_with (first
            | ((with_reducible refine Mem.load_part (W.heap.size + 1) 0 6 ?_ HRd.out.row HX.out Tryz.underlying27 HI6.out ?_ ?_); rfl; rfl)
            | (go_at_call 16; (with_reducible refine (KC.out _ (Below.refl _ _)).mono ?_); rintro e w1 ⟨rfl, hb1⟩; have HRd := Lib.hid (HRd.out.below hb1); have HZr := row_step HZr hb1; have HBW := Lib.hid (bstep HBW.out hb1 HBW.out.size); have d7 : w1.cell? ⟨W.heap.size + 1, 7, none⟩ = some (.bool (decide (0 ≤ c.errors))) := (cell_of_row _ _ 7 _ _ _ HRd.out.row).trans rfl; clear hb1)
            | ((with_reducible refine Mem.store_part W.heap.size 0 (confC v0 v1 v2 v3 (setE c)) ?_ ?_ HZr.out ?_ ?_ ?_ ?_ ?_); rfl; rfl; exact Nat.le_of_ble_eq_true rfl; kernel_rfl; exact HOne.out; rfl))
          refine box_ret3 (c := confC v0 v1 v2 v3 (setE c)) (by have h := Mem.puts_row (confC v0 v1 v2 v3 (setE c)).toList 0 HZr.out; have e := Mem.putL_whole #[Value.slice none 0 0, .slice none 0 0, .slice none 0 0, .slice none 0 0, .int .i64 0, .int .i64 0] (confC v0 v1 v2 v3 (setE c)) rfl; rw [e] at h; exact h) rfl rfl rfl rfl Tryz.underlying27 (by kernel_rfl) rfl ?_
          rw [HZ.out]
          exact ⟨v0, v1, v2, v3, ts, by rw [Hs.out]; rfl, (HRd.out.rd.kept (grown_sets _ _ _ _) (fun k e => by cases e; have := HF.out.2.2.2.1; omega)).conf, Mem.puts_below HBW.out (Nat.le_refl _) _ 0⟩
        · have HZ := Lib.hid (show parseC s = ({}, 0, E) by rw [HEnd.out]; unfold endC; rw [← hsE, ← HE.out, if_pos hE])
          have hE' : (E != 0) = true := by simpa using hE
          clear he hsE hE
          go_wp2_with (first
            | ((with_reducible refine Mem.load_part (W.heap.size + 1) 0 6 ?_ HRd.out.row HX.out Tryz.underlying27 HI6.out ?_ ?_); rfl; rfl)
            | (go_at_call 16; (with_reducible refine (KC.out _ (Below.refl _ _)).mono ?_); rintro e w1 ⟨rfl, hb1⟩; have HRd := Lib.hid (HRd.out.below hb1); have HZr := row_step HZr hb1; have HBW := Lib.hid (bstep HBW.out hb1 HBW.out.size); have d7 : w1.cell? ⟨W.heap.size + 1, 7, none⟩ = some (.bool (decide (0 ≤ c.errors))) := (cell_of_row _ _ 7 _ _ _ HRd.out.row).trans rfl; clear hb1)
            | ((with_reducible refine Mem.store_part W.heap.size 0 (#[Value.slice none 0 0, .slice none 0 0, .slice none 0 0, .slice none 0 0, .int .i64 0, .int .i64 0]) ?_ ?_ HZr.out ?_ ?_ ?_ ?_ ?_); rfl; rfl; exact Nat.le_of_ble_eq_true rfl; kernel_rfl; kernel_rfl; rfl))
          exact box_ret3 (Mem.puts_row _ 0 HZr.out) rfl rfl rfl rfl Tryz.underlying27 (by kernel_rfl) rfl (got_zero HZ.out rfl (Mem.puts_below HBW.out (Nat.le_refl _) _ 0))
end Go.Proofs.YtnmbbnhgoedjgaaGreatDoor.Chp

