/- What a rule that is read holds to; the words of a text by the library's FieldsFunc. -/
import Derived.Test.YtefhoecdoemgbaaGreatDoorRuE
import Derived.Deep.MidRow
import Derived.BigFrame
import Derived.BigGuardPart
namespace Go.Proofs.YtefhoecdoemgbaaGreatDoor.RuI
open Go Go.RowKit Go.Proofs.YtefhoecdoemgbaaGreatDoor.Ad0 Go.Proofs.YtefhoecdoemgbaaGreatDoor.Ad1 Go.Proofs.YtefhoecdoemgbaaGreatDoor.Ad3 Go.Proofs.YtefhoecdoemgbaaGreatDoor.St0 Go.Proofs.YtefhoecdoemgbaaGreatDoor.St1 Go.Proofs.YtefhoecdoemgbaaGreatDoor.St2 Go.Proofs.YtefhoecdoemgbaaGreatDoor.St3 Go.Proofs.YtefhoecdoemgbaaGreatDoor.St4 Go.Proofs.YtefhoecdoemgbaaGreatDoor.StA Go.Proofs.YtefhoecdoemgbaaGreatDoor.Ru0 Go.Proofs.YtefhoecdoemgbaaGreatDoor.Ru1 Go.Proofs.YtefhoecdoemgbaaGreatDoor.Ru4 Go.Proofs.YtefhoecdoemgbaaGreatDoor.Ru5 Go.Proofs.YtefhoecdoemgbaaGreatDoor.Ru6 Go.Proofs.YtefhoecdoemgbaaGreatDoor.Ru7 Go.Proofs.YtefhoecdoemgbaaGreatDoor.Ru8 Go.Proofs.YtefhoecdoemgbaaGreatDoor.Ru9 Go.Proofs.YtefhoecdoemgbaaGreatDoor.RuB Go.Proofs.YtefhoecdoemgbaaGreatDoor.RuC Go.Proofs.YtefhoecdoemgbaaGreatDoor.RuD Go.Proofs.YtefhoecdoemgbaaGreatDoor.RuE
set_option linter.unusedVariables false
set_option linter.unusedSimpArgs false

def shortW (ws : Ws) : Prop := ∀ x ∈ ws.l, x.length < 4294967281
theorem takesP_short {ws : Ws} (h : shortW ws) (x : Wd) : shortW (takesP ws x).2 := by
  obtain ⟨l, b⟩ := ws
  cases l with
  | nil => exact h
  | cons a t =>
    unfold takesP
    dsimp only
    split
    · exact fun y hy => h y (List.mem_cons_of_mem _ hy)
    · exact h
theorem nextF_short' {ws : Ws} (h : shortW ws) : (nextF ws).1.length < 4294967281 := by
  obtain ⟨l, b⟩ := ws
  cases l with
  | nil => simp [nextF]
  | cons x t => exact h x (by simp)
theorem nextF_rest {ws : Ws} (h : shortW ws) : shortW (nextF ws).2 := by
  obtain ⟨l, b⟩ := ws
  cases l with
  | nil => exact fun x hx => by cases hx
  | cons x t => exact fun y hy => h y (List.mem_cons_of_mem _ hy)
theorem num4_lt {ps : List (List UInt8)} {a : Nat} (h : num4 ps = some a) : a < 4294967296 := by
  unfold num4 at h
  split at h
  · rename_i p q r s
    split at h
    · rename_i h1
      split at h
      · rename_i h2
        split at h
        · rename_i h3
          split at h
          · rename_i h4
            simp only [Bool.and_eq_true, decide_eq_true_eq] at h1 h2 h3 h4
            have := Option.some.inj h
            omega
          · cases h
        · cases h
      · cases h
    · cases h
  · cases h
theorem parseL_lt (l : Wd) : (parseL l).getD 0 < 4294967296 := by
  cases h : parseL l with
  | none => decide
  | some a => exact num4_lt h
theorem prefL_ok (l : Wd) : (pfxOf (prefL l)).ok := by
  have key : ∀ p, prefL l = some p → p.ok := by
    intro p h
    unfold prefL at h
    split at h
    · split at h
      · rw [Option.map_eq_some_iff] at h
        obtain ⟨a, ha, rfl⟩ := h
        exact num4_lt ha
      · cases h
    · rw [Option.map_eq_some_iff] at h
      obtain ⟨a, ha, rfl⟩ := h
      exact num4_lt ha
  cases h : prefL l with
  | none => show (0 : Nat) < 4294967296; decide
  | some p => exact key p h
theorem portsP_who (s : SideM) (w : Ws) : (portsP s w).1.table = s.table ∧ (portsP s w).1.pfx = s.pfx := by
  unfold portsP
  dsimp only
  split
  · split <;> exact ⟨rfl, rfl⟩
  · exact ⟨rfl, rfl⟩
theorem sideF_fits {ws : Ws} (h : shortW ws) : (sideF ws).1.table.length ≤ 9223372036854775807 ∧ (sideF ws).1.pfx.ok := by
  unfold sideF
  dsimp only
  rw [(portsP_who _ _).1, (portsP_who _ _).2, whoP_eq]
  have h1 := nextF_short' h
  generalize (nextF ws).1 = x at h1
  unfold whoF
  split
  · exact ⟨by simp, by show (0 : Nat) < 4294967296; decide⟩
  · split
    · exact ⟨by show (inner x).length ≤ _; unfold inner; simp; omega, by show (0 : Nat) < 4294967296; decide⟩
    · exact ⟨by simp, prefL_ok x⟩
theorem onP_fits {ws : Ws} (h : shortW ws) : (onP ws).1.length ≤ 9223372036854775807 := by
  unfold onP
  dsimp only
  split
  · have := nextF_short' (takesP_short h wOn)
    dsimp only
    omega
  · simp
theorem pinF_fits {ws : Ws} (h : shortW ws) (x : Wd) : (pinF ws x).1.iface.length ≤ 9223372036854775807 ∧ (pinF ws x).1.gate < 4294967296 := by
  unfold pinF
  dsimp only
  split
  · have := nextF_short' (takesP_short h x)
    exact ⟨by dsimp only; omega, parseL_lt _⟩
  · exact ⟨by simp, by show (0 : Nat) < 4294967296; decide⟩
theorem bitsF_range (w : Ws) (s : Wd) : 0 ≤ (bitsF w s).1 ∧ (bitsF w s).1 ≤ 63 := by
  unfold bitsF
  split
  · rename_i n h
    have := List.mem_of_find?_eq_some h
    simp at this
    dsimp only
    omega
  · simp
theorem flagsP_range (w : Ws) : 0 ≤ (flagsP w).1.1 ∧ (flagsP w).1.1 ≤ 63 := by
  rw [flagsP_eq]
  split
  · exact bitsF_range _ _
  · simp

def ruleV (r : Option RuleM) : Value := match r with
  | some r => .tuple #[.agg (ruleC r), .int .i64 0]
  | none => .tuple #[.agg (ruleC {}), .int .i64 2]
theorem ruleOf_chain (l : List Wd) (h : Bool × Ws) (a b : Bool × Ws) (o : Wd × Ws) (pr : Int × Ws) (fr dt : SideM × Ws) (fl : (Int × Int) × Ws) (ty : Int × Ws) (k : Bool × Ws) (ro re : PinM × Ws) (tb : Int × Ws)
    (e1 : headP ⟨l, false⟩ = h) (e2 : takesP h.2 wReturn = a) (e3 : takesP a.2 wQuick = b) (e4 : onP b.2 = o) (e5 : prP o.2 = pr) (e6 : sideF (kwP pr.2 wFrom) = fr) (e7 : sideF (kwP fr.2 wTo) = dt) (e8 : flagsP dt.2 = fl) (e9 : typeP fl.2 = ty) (e10 : takesP ty.2 wKeep = k) (e11 : pinF k.2 wRoute = ro) (e12 : pinF ro.2 wReply = re) (e13 : tableP re.2 = tb) :
    ruleOf l = endP { pass := h.1, ret := a.1, quick := b.1, on := o.1, proto := pr.1, frm := fr.1, dst := dt.1, set := fl.1.1, mask := fl.1.2, typ := ty.1, keep := k.1, routeTo := ro.1, replyTo := re.1, table := tb.1 } tb.2 := by
  subst e13 e12 e11 e10 e9 e8 e7 e6 e5 e4 e3 e2 e1
  rfl

theorem blank_pays (w : World) : PredAt Tryz.prog 24 #[] encR (fun r => r == 32) w := by
  intro W r _
  unfold FnGives encR
  go_enter Tryz.func24, Tryz.ntmps24
  go_wp2
  go_ret
  exact ⟨by rw [show ((r : Int) == 32) = (r == 32) from by rw [Bool.eq_iff_iff]; simp; omega]; rfl, 0, rfl⟩
/-- The words of a text, in memory. -/
theorem fields_any (s : ByteArray) (hs : s.size < 4294967281) (w : World) :
    Calls Tryz.prog 23 #[.string s, .func (.func 24) #[] #[]] w fun e w' => ∃ A, e = .returned (.slice (some ⟨A, 0, none⟩) (wordsL s.data.toList).length (wordsL s.data.toList).length) ∧ w.heap.size ≤ A ∧ A < w'.heap.size ∧
      (∀ (j : Nat) (x : Wd), (wordsL s.data.toList)[j]? = some x → w'.cell? ⟨A, j, none⟩ = some (.string ⟨x.toArray⟩)) ∧ (∀ x ∈ wordsL s.data.toList, x.length < 4294967281) ∧ Below w.heap.size w w' := by
  refine (Tryz.strings_FieldsFunc 24 #[] (enters_of Tryz.func24 (by kernel_rfl) rfl) (fun r => r == 32) s w (by omega) (blank_pays w)).mono ?_
  rintro e w' ⟨A, rfl, hA, ho, hb⟩
  have hf := fields_words s
  have hl := fields_len s
  generalize Lib.goFieldsP (fun r => r == 32) s = xs at ho hf hl
  rw [← hf]
  rw [List.length_map]
  refine ⟨A, rfl, hA, ?_, ?_, ?_, hb⟩
  · rcases ho.2 with ⟨h1, _⟩ | ⟨g, cap, cur, hv, hbg, hg, h3⟩
    · cases h1
    · injection hv with h4
      injection h4 with h5
      injection h5 with h6
      subst h6
      exact blk_lt' hg
  · intro j x hj
    rw [List.getElem?_map, Option.map_eq_some_iff] at hj
    obtain ⟨b, hb1, rfl⟩ := hj
    have hjl : j < xs.length := (List.getElem?_eq_some_iff.1 hb1).1
    have := ho.cellAt (g := A) (j := j) (by simpa using hjl)
    rw [this, List.getElem?_map, hb1]
    rfl
  · intro x hx
    obtain ⟨b, hb1, rfl⟩ := List.mem_map.1 hx
    have := hl b hb1
    rw [← size_data]
    omega
end Go.Proofs.YtefhoecdoemgbaaGreatDoor.RuI
