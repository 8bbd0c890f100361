/- What a rule that is read holds to; the words of a text by the library's FieldsFunc. rule.Is. castellanref14: Name, all, side, pin: what may be. castellanref14.reader: next, is, num, address. -/
import Derived.Test.YtnmbbnhgoedjgaaGreatDoorPRuG
import Derived.Test.YtnmbbnhgoedjgaaGreatDoorPMem
import Derived.Test.YtnmbbnhgoedjgaaGreatDoorPRu5
import Derived.Test.YtnmbbnhgoedjgaaGreatDoorPSt7
import Derived.Test.YtnmbbnhgoedjgaaGreatDoorPAd2
import Derived.Test.YtnmbbnhgoedjgaaGreatDoorPCf3
import Derived.Deep.MidRow
import Derived.BigFrame
import Derived.BigGuardPart
import Derived.Lib.FieldsP
import Derived.Lib.DecodeN
import Derived.RegionTactic
import Derived.BigRegion
import Derived.Deep.DeepCutAuto
namespace Go.Proofs.YtnmbbnhgoedjgaaGreatDoor.RuI
open Go Go.RowKit Go.Proofs.YtnmbbnhgoedjgaaGreatDoor.Ad0 Go.Proofs.YtnmbbnhgoedjgaaGreatDoor.St1 Go.Proofs.YtnmbbnhgoedjgaaGreatDoor.St2 Go.Proofs.YtnmbbnhgoedjgaaGreatDoor.St3 Go.Proofs.YtnmbbnhgoedjgaaGreatDoor.Ru0 Go.Proofs.YtnmbbnhgoedjgaaGreatDoor.Ru1 Go.Proofs.YtnmbbnhgoedjgaaGreatDoor.Ru4 Go.Proofs.YtnmbbnhgoedjgaaGreatDoor.Ru5 Go.Proofs.YtnmbbnhgoedjgaaGreatDoor.Ru6 Go.Proofs.YtnmbbnhgoedjgaaGreatDoor.RuB Go.Proofs.YtnmbbnhgoedjgaaGreatDoor.RuC Go.Proofs.YtnmbbnhgoedjgaaGreatDoor.RuE
set_option linter.unusedVariables false
set_option linter.unusedSimpArgs false
def shortW (ws : Ws) : Prop := ∀ x ∈ ws.l, x.length < 4294967281
theorem takesP_short {ws : Ws} (h : shortW ws) (x : Wd) : shortW (takesP ws x).2 := by
  obtain ⟨l, b⟩ := ws
  cases l with
  | nil => exact h
  | cons a t =>
    unfold takesP
    dsimp only
    split
    · exact fun y hy => h y (List.mem_cons_of_mem _ hy)
    · exact h
theorem nextF_short' {ws : Ws} (h : shortW ws) : (nextF ws).1.length < 4294967281 := by
  obtain ⟨l, b⟩ := ws
  cases l with
  | nil => simp [nextF]
  | cons x t => exact h x (by simp)
theorem num4_lt {ps : List (List UInt8)} {a : Nat} (h : num4 ps = some a) : a < 4294967296 := by
  unfold num4 at h
  split at h
  · rename_i p q r s
    split at h
    · rename_i h1
      split at h
      · rename_i h2
        split at h
        · rename_i h3
          split at h
          · rename_i h4
            simp only [Bool.and_eq_true, decide_eq_true_eq] at h1 h2 h3 h4
            have := Option.some.inj h
            omega
          · cases h
        · cases h
      · cases h
    · cases h
  · cases h
theorem parseL_lt (l : Wd) : (parseL l).getD 0 < 4294967296 := by
  cases h : parseL l with
  | none => decide
  | some a => exact num4_lt h
theorem prefL_ok (l : Wd) : (pfxOf (prefL l)).ok := by
  have key : ∀ p, prefL l = some p → p.ok := by
    intro p h
    unfold prefL at h
    split at h
    · split at h
      · rw [Option.map_eq_some_iff] at h
        obtain ⟨a, ha, rfl⟩ := h
        exact num4_lt ha
      · cases h
    · rw [Option.map_eq_some_iff] at h
      obtain ⟨a, ha, rfl⟩ := h
      exact num4_lt ha
  cases h : prefL l with
  | none => show (0 : Nat) < 4294967296; decide
  | some p => exact key p h
theorem portsP_who (s : SideM) (w : Ws) : (portsP s w).1.table = s.table ∧ (portsP s w).1.pfx = s.pfx := by
  unfold portsP
  dsimp only
  split
  · split <;> exact ⟨rfl, rfl⟩
  · exact ⟨rfl, rfl⟩
theorem sideF_fits {ws : Ws} (h : shortW ws) : (sideF ws).1.table.length ≤ 9223372036854775807 ∧ (sideF ws).1.pfx.ok := by
  unfold sideF
  dsimp only
  rw [(portsP_who _ _).1, (portsP_who _ _).2, whoP_eq]
  have h1 := nextF_short' h
  generalize (nextF ws).1 = x at h1
  unfold whoF
  split
  · exact ⟨by simp, by show (0 : Nat) < 4294967296; decide⟩
  · split
    · exact ⟨by show (inner x).length ≤ _; unfold inner; simp; omega, by show (0 : Nat) < 4294967296; decide⟩
    · exact ⟨by simp, prefL_ok x⟩
theorem onP_fits {ws : Ws} (h : shortW ws) : (onP ws).1.length ≤ 9223372036854775807 := by
  unfold onP
  dsimp only
  split
  · have := nextF_short' (takesP_short h wOn)
    dsimp only
    omega
  · simp
theorem pinF_fits {ws : Ws} (h : shortW ws) (x : Wd) : (pinF ws x).1.iface.length ≤ 9223372036854775807 ∧ (pinF ws x).1.gate < 4294967296 := by
  unfold pinF
  dsimp only
  split
  · have := nextF_short' (takesP_short h x)
    exact ⟨by dsimp only; omega, parseL_lt _⟩
  · exact ⟨by simp, by show (0 : Nat) < 4294967296; decide⟩
theorem bitsF_range (w : Ws) (s : Wd) : 0 ≤ (bitsF w s).1 ∧ (bitsF w s).1 ≤ 63 := by
  unfold bitsF
  split
  · rename_i n h
    have := List.mem_of_find?_eq_some h
    simp at this
    dsimp only
    omega
  · simp
theorem flagsP_range (w : Ws) : 0 ≤ (flagsP w).1.1 ∧ (flagsP w).1.1 ≤ 63 := by
  rw [flagsP_eq]
  split
  · exact bitsF_range _ _
  · simp
def ruleV (r : Option RuleM) : Value := match r with
  | some r => .tuple #[.agg (ruleC r), .int .i64 0]
  | none => .tuple #[.agg (ruleC {}), .int .i64 2]
theorem ruleOf_chain (l : List Wd) (h : Bool × Ws) (a b : Bool × Ws) (o : Wd × Ws) (pr : Int × Ws) (fr dt : SideM × Ws) (fl : (Int × Int) × Ws) (ty : Int × Ws) (k : Bool × Ws) (ro re : PinM × Ws) (tb : Int × Ws)
    (e1 : headP ⟨l, false⟩ = h) (e2 : takesP h.2 wReturn = a) (e3 : takesP a.2 wQuick = b) (e4 : onP b.2 = o) (e5 : prP o.2 = pr) (e6 : sideF (kwP pr.2 wFrom) = fr) (e7 : sideF (kwP fr.2 wTo) = dt) (e8 : flagsP dt.2 = fl) (e9 : typeP fl.2 = ty) (e10 : takesP ty.2 wKeep = k) (e11 : pinF k.2 wRoute = ro) (e12 : pinF ro.2 wReply = re) (e13 : tableP re.2 = tb) :
    ruleOf l = endP { pass := h.1, ret := a.1, quick := b.1, on := o.1, proto := pr.1, frm := fr.1, dst := dt.1, set := fl.1.1, mask := fl.1.2, typ := ty.1, keep := k.1, routeTo := ro.1, replyTo := re.1, table := tb.1 } tb.2 := by
  subst e13 e12 e11 e10 e9 e8 e7 e6 e5 e4 e3 e2 e1
  rfl
theorem blank_pays (w : World) : PredAt Tryz.prog 106 #[] encR (fun r => r == 32) w := by
  intro W r _
  unfold FnGives encR
  go_enter Tryz.func106, Tryz.ntmps106
  go_wp2
  go_ret
  exact ⟨by rw [show ((r : Int) == 32) = (r == 32) from by rw [Bool.eq_iff_iff]; simp; omega]; rfl, 0, rfl⟩
/-- The words of a text, in memory. -/
theorem fields_any (s : ByteArray) (hs : s.size < 4294967281) (w : World) :
    Calls Tryz.prog 25 #[.string s, .func (.func 106) #[] #[]] w fun e w' => ∃ A, e = .returned (.slice (some ⟨A, 0, none⟩) (wordsL s.data.toList).length (wordsL s.data.toList).length) ∧ w.heap.size ≤ A ∧ A < w'.heap.size ∧
      (∀ (j : Nat) (x : Wd), (wordsL s.data.toList)[j]? = some x → w'.cell? ⟨A, j, none⟩ = some (.string ⟨x.toArray⟩)) ∧ (∀ x ∈ wordsL s.data.toList, x.length < 4294967281) ∧ Below w.heap.size w w' := by
  refine (Tryz.strings_FieldsFunc 106 #[] (enters_of Tryz.func106 (by kernel_rfl) rfl) (fun r => r == 32) s w (by omega) (blank_pays w)).mono ?_
  rintro e w' ⟨A, rfl, hA, ho, hb⟩
  have hf := fields_words s
  have hl := fields_len s
  generalize Lib.goFieldsP (fun r => r == 32) s = xs at ho hf hl
  rw [← hf]
  rw [List.length_map]
  refine ⟨A, rfl, hA, ?_, ?_, ?_, hb⟩
  · rcases ho.2 with ⟨h1, _⟩ | ⟨g, cap, cur, hv, hbg, hg, h3⟩
    · cases h1
    · injection hv with h4
      injection h4 with h5
      injection h5 with h6
      subst h6
      exact blk_lt' hg
  · intro j x hj
    rw [List.getElem?_map, Option.map_eq_some_iff] at hj
    obtain ⟨b, hb1, rfl⟩ := hj
    have hjl : j < xs.length := (List.getElem?_eq_some_iff.1 hb1).1
    have := ho.cellAt (g := A) (j := j) (by simpa using hjl)
    rw [this, List.getElem?_map, hb1]
    rfl
  · intro x hx
    obtain ⟨b, hb1, rfl⟩ := List.mem_map.1 hx
    have := hl b hb1
    rw [← size_data]
    omega
end Go.Proofs.YtnmbbnhgoedjgaaGreatDoor.RuI

namespace Go.Proofs.YtnmbbnhgoedjgaaGreatDoor.RuH
open Go Go.RowKit Go.Proofs.YtnmbbnhgoedjgaaGreatDoor.Ad0 Go.Proofs.YtnmbbnhgoedjgaaGreatDoor.Ad1 Go.Proofs.YtnmbbnhgoedjgaaGreatDoor.St3 Go.Proofs.YtnmbbnhgoedjgaaGreatDoor.Ru0 Go.Proofs.YtnmbbnhgoedjgaaGreatDoor.Ru6 Go.Proofs.YtnmbbnhgoedjgaaGreatDoor.RuB Go.Proofs.YtnmbbnhgoedjgaaGreatDoor.RuC Go.Proofs.YtnmbbnhgoedjgaaGreatDoor.RuD Go.Proofs.YtnmbbnhgoedjgaaGreatDoor.RuE Go.Proofs.YtnmbbnhgoedjgaaGreatDoor.RuF Go.Proofs.YtnmbbnhgoedjgaaGreatDoor.RuG
set_option linter.unusedVariables false
set_option linter.unusedSimpArgs false
/-- What a rule in memory holds to: no word is too long, each address fits. -/
structure Fits (r : RuleM) : Prop where
  on : r.on.length ≤ 9223372036854775807
  ft : r.frm.table.length ≤ 9223372036854775807
  fp : r.frm.pfx.ok
  dt : r.dst.table.length ≤ 9223372036854775807
  dp : r.dst.pfx.ok
  ri : r.routeTo.iface.length ≤ 9223372036854775807
  pi : r.replyTo.iface.length ≤ 9223372036854775807
  rg : r.routeTo.gate < 4294967296
  pg : r.replyTo.gate < 4294967296
  set : -9223372036854775808 ≤ r.set ∧ r.set ≤ 9223372036854775807
theorem ruleP_chain (r : RuleM) : ruleP r = (!(r.ret && r.pass) && (passP r && ((decide (r.on = []) || nameL r.on) && (lookP r && (sideP r.frm r.proto && (sideP r.dst r.proto && (pinP r.routeTo && (pinP r.replyTo && (decide (0 ≤ r.table) && decide (r.table < 4)))))))))) := by
  unfold ruleP
  simp only [Bool.and_assoc]
set_option maxRecDepth 100000 in
set_option maxHeartbeats 4000000 in
theorem isP_any (r : RuleM) (h : Fits r) (w : World) :
    Calls Tryz.prog 47 #[.agg (ruleC r)] w fun e w' => e = .returned (.bool (ruleP r)) ∧ Below w.heap.size w w' := by
  have K1 : Hid (∀ W, Calls Tryz.prog 92 #[.agg (ruleC r)] W fun e w' => e = .returned (.bool (passP r)) ∧ Below W.heap.size W w') := fun W => isPass_any r W
  have K2 := Lib.hid (fun W => name_any r.on h.on W)
  have K3 := Lib.hid (fun W => isLook_any r W)
  have K4 := Lib.hid (fun W => isSide_any r.frm r.proto h.ft h.fp W)
  have K5 := Lib.hid (fun W => isSide_any r.dst r.proto h.dt h.dp W)
  have K6 := Lib.hid (fun W => isPin_any r.routeTo h.ri W)
  have K7 := Lib.hid (fun W => isPin_any r.replyTo h.pi W)
  have HC := Lib.hid (ruleP_chain r)
  generalize passP r = b1 at K1 HC
  generalize nameL r.on = b2 at K2 HC
  generalize lookP r = b3 at K3 HC
  generalize sideP r.frm r.proto = b4 at K4 HC
  generalize sideP r.dst r.proto = b5 at K5 HC
  generalize pinP r.routeTo = b6 at K6 HC
  generalize pinP r.replyTo = b7 at K7 HC
  have HB := Lib.hid (bnew w (.cells (ruleC r) 75))
  have HR := Lib.hid (heap_alloc_new w (.cells (ruleC r) 75))
  have HI := Tryz.underlying75
  have d0 := rc0 r
  have d1 := rc1 r
  have d3 := rc3 r
  have d4 := rc4 r
  have d27 := rc27 r
  have hi32 : (Tryz.prog.info? 75).map (·.size) = some (ruleC r).size := by kernel_rfl
  have HI32 := Lib.hid hi32
  have hi28 : ∀ s : SideM, (Tryz.prog.info? 71).map (·.size) = some (sideC s).size := fun _ => by kernel_rfl
  have HI28 := Lib.hid hi28
  have hi30 : ∀ s : PinM, (Tryz.prog.info? 73).map (·.size) = some (pinC s).size := fun _ => by kernel_rfl
  have HI30 := Lib.hid hi30
  clear h HI hi32 hi28 hi30
  go_enter Tryz.func47, Tryz.ntmps47
  go_wp2_with (first
    | ((with_reducible refine Mem.load_row w.heap.size ?_ HR.out Tryz.underlying75 HI32.out ?_ ?_); rfl; rfl)
    | ((with_reducible refine Mem.load_part w.heap.size 5 6 ?_ HR.out (ex_frm r) Tryz.underlying71 (HI28.out _) ?_ ?_); rfl; rfl)
    | ((with_reducible refine Mem.load_part w.heap.size 11 6 ?_ HR.out (ex_dst r) Tryz.underlying71 (HI28.out _) ?_ ?_); rfl; rfl)
    | ((with_reducible refine Mem.load_part w.heap.size 21 3 ?_ HR.out (ex_route r) Tryz.underlying73 (HI30.out _) ?_ ?_); rfl; rfl)
    | ((with_reducible refine Mem.load_part w.heap.size 24 3 ?_ HR.out (ex_reply r) Tryz.underlying73 (HI30.out _) ?_ ?_); rfl; rfl)
    | (go_at_call 92; first | ((with_reducible refine (K1.out _).mono ?_); rintro e w1 ⟨rfl, hb1⟩; have HB := Lib.hid (bstep HB.out hb1 HB.out.size); have HR := row_step HR hb1; have hc : ∀ j, w1.cell? ⟨w.heap.size, j, none⟩ = (ruleC r)[j]? := fun j => cell_of_row _ _ _ _ _ _ HR.out; clear hb1))
    | (go_at_call 63; first | ((with_reducible refine (K2.out _).mono ?_); rintro e w1 ⟨rfl, hb1⟩; have HB := Lib.hid (bstep HB.out hb1 HB.out.size); have HR := row_step HR hb1; have hc : ∀ j, w1.cell? ⟨w.heap.size, j, none⟩ = (ruleC r)[j]? := fun j => cell_of_row _ _ _ _ _ _ HR.out; clear hb1))
    | (go_at_call 93; first | ((with_reducible refine (K3.out _).mono ?_); rintro e w1 ⟨rfl, hb1⟩; have HB := Lib.hid (bstep HB.out hb1 HB.out.size); have HR := row_step HR hb1; have hc : ∀ j, w1.cell? ⟨w.heap.size, j, none⟩ = (ruleC r)[j]? := fun j => cell_of_row _ _ _ _ _ _ HR.out; clear hb1))
    | (go_at_call 94; first | ((with_reducible refine (K4.out _).mono ?_); rintro e w1 ⟨rfl, hb1⟩; have HB := Lib.hid (bstep HB.out hb1 HB.out.size); have HR := row_step HR hb1; have hc : ∀ j, w1.cell? ⟨w.heap.size, j, none⟩ = (ruleC r)[j]? := fun j => cell_of_row _ _ _ _ _ _ HR.out; clear hb1) | ((with_reducible refine (K5.out _).mono ?_); rintro e w1 ⟨rfl, hb1⟩; have HB := Lib.hid (bstep HB.out hb1 HB.out.size); have HR := row_step HR hb1; have hc : ∀ j, w1.cell? ⟨w.heap.size, j, none⟩ = (ruleC r)[j]? := fun j => cell_of_row _ _ _ _ _ _ HR.out; clear hb1))
    | (go_at_call 95; first | ((with_reducible refine (K6.out _).mono ?_); rintro e w1 ⟨rfl, hb1⟩; have HB := Lib.hid (bstep HB.out hb1 HB.out.size); have HR := row_step HR hb1; have hc : ∀ j, w1.cell? ⟨w.heap.size, j, none⟩ = (ruleC r)[j]? := fun j => cell_of_row _ _ _ _ _ _ HR.out; clear hb1) | ((with_reducible refine (K7.out _).mono ?_); rintro e w1 ⟨rfl, hb1⟩; have HB := Lib.hid (bstep HB.out hb1 HB.out.size); have HR := row_step HR hb1; have hc : ∀ j, w1.cell? ⟨w.heap.size, j, none⟩ = (ruleC r)[j]? := fun j => cell_of_row _ _ _ _ _ _ HR.out; clear hb1)))
  all_goals go_ret
  all_goals exact ⟨by rw [HC.out]; simp_all <;> (try intros) <;> omega, HB.out⟩
end Go.Proofs.YtnmbbnhgoedjgaaGreatDoor.RuH

namespace Go.Proofs.YtnmbbnhgoedjgaaGreatDoor.RuQ
open Go Go.RowKit Go.Proofs.YtnmbbnhgoedjgaaGreatDoor.Ad0 Go.Proofs.YtnmbbnhgoedjgaaGreatDoor.Ad1 Go.Proofs.YtnmbbnhgoedjgaaGreatDoor.St1 Go.Proofs.YtnmbbnhgoedjgaaGreatDoor.St5 Go.Proofs.YtnmbbnhgoedjgaaGreatDoor.Ru0
set_option linter.unusedVariables false
set_option linter.unusedSimpArgs false
theorem sign_yes (b : UInt8) (h : isSign b = true) : (97 ≤ (b.toNat : Int) ∧ (b.toNat : Int) ≤ 122) ∨ ((b.toNat : Int) < 97 ∧ 48 ≤ (b.toNat : Int) ∧ (b.toNat : Int) ≤ 57) := by
  unfold isSign at h
  simp only [Bool.or_eq_true, decide_eq_true_eq] at h
  omega
theorem sign_no (b : UInt8) (h : isSign b = false) : ((b.toNat : Int) < 97 ∧ (b.toNat : Int) < 48) ∨ ((b.toNat : Int) < 97 ∧ 48 ≤ (b.toNat : Int) ∧ 57 < (b.toNat : Int)) ∨ (97 ≤ (b.toNat : Int) ∧ 122 < (b.toNat : Int)) := by
  unfold isSign at h
  simp only [Bool.or_eq_false_iff, decide_eq_false_iff_not] at h
  omega
set_option maxHeartbeats 2000000 in
theorem rname_any (s : ByteArray) (hs : s.size ≤ 9223372036854775807) (w : World) :
    Calls Tryz.prog 50 #[.string s] w fun e w' => e = .returned (.bool (nameL s.data.toList)) ∧ w' = w := by
  go_enter Tryz.func50, Tryz.ntmps50
  go_wp2
  go_loopw [3] (fun i wr => ∃ k : Nat, k ≤ s.size ∧ i = .int .i64 k ∧ (s.data.toList.take k).all isSign = true ∧ wr = w) (fun i _ => (s.size - intOf i).toNat)
  case atStart => exact ⟨0, by omega, rfl, by simp, rfl⟩
  case round =>
    obtain ⟨k, hk, rfl, hall, rfl⟩ := hrel
    have HA := Lib.hid hall
    clear hall
    by_cases hlt : k < s.size
    · have hlt' : (k : Int) < s.size := by omega
      have hst := take_step s k hlt
      cases hb : isSign s[k] with
      | true =>
        have HN : Hid ((s.data.toList.take (k + 1)).all isSign = true) := by
          have : (s.data.toList.take (k + 1)).all isSign = true := by rw [hst, List.all_append, HA.out]; simp [hb]
          exact Lib.hid this
        clear hst
        rcases sign_yes _ hb with ⟨h1, h2⟩ | ⟨h1, h2, h3⟩
        all_goals
          clear hb
          go_wp2_with fail
          all_goals first
            | (exfalso; omega)
            | (go_roundw
               case rel => exact ⟨k + 1, by omega, by go_num, HN.out, trivial⟩
               case measure => simp only [intOf]; omega)
      | false =>
        have hno : nameL s.data.toList = false := by
          unfold nameL
          have : s.data.toList.all isSign = false := by
            rw [Bool.eq_false_iff]
            intro ha
            have h1 := List.all_eq_true.1 ha s[k] (by exact List.mem_of_getElem? (at_list s k hlt))
            rw [hb] at h1
            cases h1
          rw [this, Bool.and_false]
        have HN := Lib.hid hno
        clear hst hno
        rcases sign_no _ hb with ⟨h1, h2⟩ | ⟨h1, h2, h3⟩ | ⟨h1, h2⟩
        all_goals
          clear hb
          go_wp2_with fail
          all_goals first
            | (exfalso; omega)
            | (go_ret; exact ⟨by rw [HN.out]; rfl, rfl⟩)
    · obtain rfl : k = s.size := by omega
      have hv : nameL s.data.toList = (decide (1 ≤ s.size) && decide (s.size ≤ 8)) := by
        have e : s.data.toList.take s.size = s.data.toList := List.take_of_length_le (by rw [← size_data]; exact Nat.le_refl _)
        have ha := HA.out
        rw [e] at ha
        unfold nameL
        rw [ha, Bool.and_true, size_data]
        congr 1
        cases s.data.toList <;> simp
      by_cases z1 : 1 ≤ s.size <;> by_cases z8 : s.size ≤ 8
      all_goals
        have hv' := hv
        simp only [z1, z8, decide_true, decide_false, Bool.and_true, Bool.and_false, Bool.and_self] at hv'
        have HV := Lib.hid hv'
        clear hv' hv
        go_wp2
        all_goals first
          | (exfalso; omega)
          | (go_ret; exact ⟨by rw [HV.out]; simp_all <;> omega, rfl⟩)
end Go.Proofs.YtnmbbnhgoedjgaaGreatDoor.RuQ
/- castellanref14: all, side, pin: what may be. -/
namespace Go.Proofs.YtnmbbnhgoedjgaaGreatDoor.RuR
open Go Go.RowKit Go.Proofs.YtnmbbnhgoedjgaaGreatDoor.Ad0 Go.Proofs.YtnmbbnhgoedjgaaGreatDoor.Ad1 Go.Proofs.YtnmbbnhgoedjgaaGreatDoor.Ad2 Go.Proofs.YtnmbbnhgoedjgaaGreatDoor.St1 Go.Proofs.YtnmbbnhgoedjgaaGreatDoor.St3 Go.Proofs.YtnmbbnhgoedjgaaGreatDoor.St5 Go.Proofs.YtnmbbnhgoedjgaaGreatDoor.Ru0 Go.Proofs.YtnmbbnhgoedjgaaGreatDoor.Ru9 Go.Proofs.YtnmbbnhgoedjgaaGreatDoor.RuB Go.Proofs.YtnmbbnhgoedjgaaGreatDoor.RuE Go.Proofs.YtnmbbnhgoedjgaaGreatDoor.RuG Go.Proofs.YtnmbbnhgoedjgaaGreatDoor.RuQ
set_option linter.unusedVariables false
set_option linter.unusedSimpArgs false
theorem rname_w (s : Wd) (hs : s.length ≤ 9223372036854775807) (w : World) : Calls Tryz.prog 50 #[.string ⟨s.toArray⟩] w fun e w' => e = .returned (.bool (nameL s)) ∧ w' = w :=
  rname_any ⟨s.toArray⟩ (by rw [wd_size]; exact hs) w
theorem all_any (a b : Int) (w : World) : Calls Tryz.prog 139 #[.agg #[.int .i64 a, .int .i64 b]] w fun e w' => e = .returned (.bool (a == 0 && b == 65535)) ∧ Below w.heap.size w w' := by
  go_enter Tryz.func139, Tryz.ntmps139
  go_wp2
  all_goals (go_ret; exact ⟨by simp_all, bnew _ _⟩)
set_option maxHeartbeats 1000000 in
theorem rpin_any (p : PinM) (hs : p.iface.length ≤ 9223372036854775807) (w : World) :
    Calls Tryz.prog 98 #[.agg (pinC p)] w fun e w' => e = .returned (.bool (pinR p)) ∧ Below w.heap.size w w' := by
  have KN := Lib.hid (fun W => rname_w p.iface hs W)
  obtain ⟨on, iface, gate⟩ := p
  unfold pinR pinC
  dsimp only at KN ⊢
  cases on
  all_goals
    cases hn : nameL iface
    all_goals
      rw [hn] at KN
      go_enter Tryz.func98, Tryz.ntmps98
      go_wp2_with (go_at_call 50; refine (KN.out _).mono ?_; rintro e w1 ⟨rfl, rfl⟩)
      all_goals (go_ret; exact ⟨by simp_all, bnew _ _⟩)
/-- Are the ports of an end not so? -/
def portBad (s : SideM) (ported : Bool) : Bool := decide (s.low < 0) || decide (65535 < s.high) || decide (s.high < s.low) || (!ported && !allP s)
theorem sideR_eq (s : SideM) (b : Bool) : sideR s b = if portBad s b then false else if s.any then decide (s.table = []) && decide (s.pfx = ⟨0, 0⟩) else if s.table ≠ [] then nameL s.table && decide (s.pfx = ⟨0, 0⟩) else isF s.pfx := rfl
set_option maxRecDepth 100000 in
set_option maxHeartbeats 4000000 in
theorem rside_any (s : SideM) (p : Bool) (hs : s.table.length ≤ 9223372036854775807) (hp : s.pfx.ok) (w : World) :
    Calls Tryz.prog 97 #[.agg (sideC s), .bool p] w fun e w' => e = .returned (.bool (sideR s p)) ∧ Below w.heap.size w w' := by
  have KN := Lib.hid (fun W => rname_w s.table hs W)
  have KI := Lib.hid (fun W => ris_any s.pfx hp W)
  have KA := Lib.hid (fun W => all_any s.low s.high W)
  have hap : (s.low == 0 && s.high == 65535) = allP s := rfl
  rw [hap] at KA
  clear hap
  have HB0 := Lib.hid (bnew w (.cells (sideC s) 71))
  have HR0 := Lib.hid (heap_alloc_new w (.cells (sideC s) 71))
  obtain ⟨s0, s1, s2, s3, s4, s5⟩ := sc s
  have HZ := Lib.hid (pfx_zero s.pfx)
  go_enter Tryz.func97, Tryz.ntmps97
  go_upto_region 1 with fail
  go_cut [1, 33] (fun s1 s33 wc => s33 = .bool (portBad s p) ∧ Below w.heap.size w wc ∧ wc.heap[w.heap.size]? = some (.cells (sideC s) 71 (0, 0)))
  case first =>
    cases hpv : p <;> cases hav : allP s
    all_goals
      have HAV := Lib.hid hav
      rw [hav] at KA
      clear hav
      go_wp2_with (go_at_call 139; refine (KA.out _).mono ?_; rintro e w1 ⟨rfl, hb1⟩; have HX := Lib.hid hb1; clear hb1)
      all_goals go_meet
      all_goals (case rel => first | exact ⟨by unfold portBad; rw [HAV.out]; simp_all <;> (try intros) <;> omega, HB0.out, HR0.out⟩ | exact ⟨by unfold portBad; rw [HAV.out]; simp_all <;> (try intros) <;> omega, bstep HB0.out HX.out HB0.out.size, row_step HR0 HX.out⟩)
  case rest =>
    obtain ⟨rfl, hbw, hrw⟩ := hcut
    have HB2 := Lib.hid hbw
    have HR2 := Lib.hid hrw
    obtain ⟨a0, a1, a2, a3, a4, a5, b0, b1, b2, b3, b4, b5⟩ := box6 hrw
    clear hbw hrw
    cases hwb : portBad s p with
    | true =>
      have HW := Lib.hid hwb
      clear hwb
      go_wp2
      go_ret
      exact ⟨by rw [sideR_eq, HW.out]; rfl, HB2.out⟩
    | false =>
      have HW := Lib.hid hwb
      clear hwb
      cases hany : s.any with
      | true =>
        have HANY := Lib.hid hany
        rw [hany] at a0
        clear hany
        go_wp2
        all_goals go_ret
        all_goals exact ⟨by rw [sideR_eq, HW.out, HANY.out, HZ.out]; simp_all, HB2.out⟩
      | false =>
        have HANY := Lib.hid hany
        rw [hany] at a0
        clear hany
        cases ht : s.table.isEmpty with
        | true =>
          have ht2 : s.table = [] := by simpa using ht
          have HT := Lib.hid ht2
          clear ht2
          go_wp2_with (go_at_call 68; refine (KI.out _).mono ?_; rintro e w2 ⟨rfl, hb2⟩; have HX := Lib.hid hb2; clear hb2)
          go_ret
          exact ⟨by rw [sideR_eq, HW.out, HANY.out]; simp [HT.out], bstep HB2.out HX.out HB2.out.size⟩
        | false =>
          have ht2 : s.table ≠ [] := by simpa using ht
          have HT := Lib.hid ht2
          clear ht2
          cases hn : nameL s.table
          all_goals
            have HN := Lib.hid hn
            rw [hn] at KN
            clear hn
            go_wp2_with (go_at_call 50; refine (KN.out _).mono ?_; rintro e w2 ⟨rfl, rfl⟩)
            all_goals go_ret
            all_goals exact ⟨by rw [sideR_eq, HW.out, HANY.out, if_pos HT.out, HN.out, HZ.out]; simp_all, HB2.out⟩
end Go.Proofs.YtnmbbnhgoedjgaaGreatDoor.RuR

namespace Go.Proofs.YtnmbbnhgoedjgaaGreatDoor.RuK
open Go Go.RowKit Go.Proofs.YtnmbbnhgoedjgaaGreatDoor.Ad1 Go.Proofs.YtnmbbnhgoedjgaaGreatDoor.St0 Go.Proofs.YtnmbbnhgoedjgaaGreatDoor.St1 Go.Proofs.YtnmbbnhgoedjgaaGreatDoor.St2 Go.Proofs.YtnmbbnhgoedjgaaGreatDoor.St3 Go.Proofs.YtnmbbnhgoedjgaaGreatDoor.St5 Go.Proofs.YtnmbbnhgoedjgaaGreatDoor.St8 Go.Proofs.YtnmbbnhgoedjgaaGreatDoor.St9 Go.Proofs.YtnmbbnhgoedjgaaGreatDoor.Ru0 Go.Proofs.YtnmbbnhgoedjgaaGreatDoor.Ru1 Go.Proofs.YtnmbbnhgoedjgaaGreatDoor.Ru6 Go.Proofs.YtnmbbnhgoedjgaaGreatDoor.Ru8 Go.Proofs.YtnmbbnhgoedjgaaGreatDoor.Ru9 Go.Proofs.YtnmbbnhgoedjgaaGreatDoor.RuB Go.Proofs.YtnmbbnhgoedjgaaGreatDoor.RuC
set_option linter.unusedVariables false
set_option linter.unusedSimpArgs false
set_option maxHeartbeats 1000000 in
theorem rnext_any (g : Nat) (ws : Ws) (W : World) (h : Rd 162 W g ws) :
    Calls Tryz.prog 117 #[.pointer (some ⟨g, 0, none⟩)] W fun e w' => e = .returned (.string ⟨(nextF ws).1.toArray⟩) ∧ Rd 162 w' g (nextF ws).2 ∧ Upto g W w' := by
  have HH := Lib.hid h
  obtain ⟨hlt, hsh, A, n, cap, hrow, hn, hcap, hl⟩ := h
  obtain ⟨l, bad⟩ := ws
  have HR := Lib.hid hrow
  obtain ⟨c0, c1, f0, f1⟩ := box2 hrow
  clear hrow
  dsimp only at c0 c1 hn hl hsh
  cases l with
  | nil =>
    obtain rfl : n = 0 := hn
    clear hl hsh
    go_enter Tryz.func117, Tryz.ntmps117
    go_wp2
    go_ret
    exact ⟨rfl, HH.out.bad true, (Upto.refl _ _).set⟩
  | cons x t =>
    obtain ⟨b, off, rfl, hb, hbl, hx, ht⟩ := cons_lies hl
    obtain rfl : n = t.length + 1 := hn
    have HT := Lib.hid ht
    have HS := Lib.hid hsh
    clear hl ht hsh
    by_cases h1 : cap = 1
    · subst h1
      obtain rfl : t = [] := by
        cases t with
        | nil => rfl
        | cons _ _ => simp at hcap
      go_enter Tryz.func117, Tryz.ntmps117
      go_wp2
      go_ret
      exact ⟨rfl, pop_last (x := x) HR.out, (Upto.refl _ _).set⟩
    · have hcap' : 1 < cap := by omega
      go_enter Tryz.func117, Tryz.ntmps117
      go_wp2
      go_ret
      exact ⟨rfl, pop_one HR.out hb hbl HS.out HT.out hcap, (Upto.refl _ _).set⟩
set_option maxHeartbeats 1000000 in
theorem is_word (g : Nat) (ws : Ws) (word : Array UInt8) (W : World) (h : Rd 162 W g ws) :
    Calls Tryz.prog 118 #[.pointer (some ⟨g, 0, none⟩), .string ⟨word⟩] W fun e w' => e = .returned (.bool (takesR ws word.toList).1) ∧ Rd 162 w' g (takesR ws word.toList).2 ∧ Upto g W w' := by
  have HH := Lib.hid h
  obtain ⟨hlt, hsh, A, n, cap, hrow, hn, hcap, hl⟩ := h
  obtain ⟨l, bad⟩ := ws
  have HR := Lib.hid hrow
  obtain ⟨c0, c1, f0, f1⟩ := box2 hrow
  clear hrow
  dsimp only at c0 c1 hn hl hsh
  cases l with
  | nil =>
    obtain rfl : n = 0 := hn
    clear hl hsh
    go_enter Tryz.func118, Tryz.ntmps118
    go_wp2
    go_ret
    exact ⟨rfl, HH.out, Upto.refl _ _⟩
  | cons x t =>
    obtain ⟨b, off, rfl, hb, hbl, hx, ht⟩ := cons_lies hl
    obtain rfl : n = t.length + 1 := hn
    have HT := Lib.hid ht
    have HS := Lib.hid hsh
    clear hl ht hsh
    have hnz : ((t.length : Int) + 1 == 0) = false := by rw [beq_eq_false_iff_ne]; omega
    by_cases hw : x = word.toList
    · have e0 : takesR ⟨x :: t, bad⟩ word.toList = (true, ⟨t, bad⟩) := by simp [takesR, hw]
      rw [e0]
      obtain rfl : word = x.toArray := by rw [hw]
      by_cases h1 : cap = 1
      · subst h1
        obtain rfl : t = [] := by
          cases t with
          | nil => rfl
          | cons _ _ => simp at hcap
        clear e0 hw
        go_enter Tryz.func118, Tryz.ntmps118
        go_wp2
        go_ret
        exact ⟨rfl, pop_last (x := x) HR.out, (Upto.refl _ _).set⟩
      · have hcap' : 1 < cap := by omega
        clear e0 hw
        go_enter Tryz.func118, Tryz.ntmps118
        go_wp2
        go_ret
        exact ⟨rfl, pop_one HR.out hb hbl HS.out HT.out hcap, (Upto.refl _ _).set⟩
    · have e0 : takesR ⟨x :: t, bad⟩ word.toList = (false, ⟨x :: t, bad⟩) := by simp [takesR, hw]
      rw [e0]
      have hq : (x == (⟨word⟩ : ByteArray).toList) = false := by
        rw [toList_data, beq_eq_false_iff_ne]; exact hw
      clear e0 hw
      go_enter Tryz.func118, Tryz.ntmps118
      go_wp2
      go_ret
      exact ⟨rfl, HH.out, Upto.refl _ _⟩
set_option maxHeartbeats 1000000 in
theorem rnum_any (g : Nat) (ws : Ws) (s : Wd) (hs : s.length ≤ 9223372036854775807) (most : Int) (W : World) (h : Rd 162 W g ws) :
    Calls Tryz.prog 122 #[.pointer (some ⟨g, 0, none⟩), .string ⟨s.toArray⟩, .int .i64 most] W fun e w' => e = .returned (.int .i64 (numR ws s most).1) ∧ Rd 162 w' g (numR ws s most).2 ∧ Upto g W w' := by
  have HH := Lib.hid h
  obtain ⟨c1, f1⟩ := h.cells
  clear h
  have KN := Lib.hid (fun W' => num_any ⟨s.toArray⟩ (by rw [wd_size]; exact hs) most W')
  have hx : (⟨s.toArray⟩ : ByteArray).data.toList = s := rfl
  rw [hx] at KN
  clear hx
  unfold numV at KN
  unfold numR
  by_cases hn : okNum 9 s = true
  · rw [if_pos hn] at KN ⊢
    clear hn
    generalize dv s = v at KN ⊢
    cases hm : decide ((v : Int) ≤ most)
    all_goals
      rw [hm] at KN
      go_enter Tryz.func122, Tryz.ntmps122
      go_wp2_with (go_at_call 65; refine (KN.out _).mono ?_; rintro e W1 ⟨rfl, rfl⟩)
      go_ret
    · exact ⟨rfl, by rw [orBad_eq]; simpa using HH.out.bad true, (Upto.refl _ _).set⟩
    · exact ⟨rfl, by rw [orBad_eq]; simpa using HH.out, Upto.refl _ _⟩
  · rw [if_neg hn] at KN ⊢
    clear hn
    go_enter Tryz.func122, Tryz.ntmps122
    go_wp2_with (go_at_call 65; refine (KN.out _).mono ?_; rintro e W1 ⟨rfl, rfl⟩)
    go_ret
    exact ⟨rfl, HH.out.bad true, (Upto.refl _ _).set⟩
/-- A text as an address, its two ways told. -/
theorem rparse_two (s : Wd) (hs : s.length < 4294967281) (W : World) : Calls Tryz.prog 115 #[.string ⟨s.toArray⟩] W fun e w' => e = .returned (.tuple #[.int .u32 ((parseL s).getD 0 : Nat), .int .i64 (if (parseL s).isNone then 2 else 0)]) ∧ Below W.heap.size W w' := by
  refine (rparse_any ⟨s.toArray⟩ (by rw [wd_size]; omega) W).mono ?_
  rintro e w' ⟨rfl, hb⟩
  refine ⟨?_, hb⟩
  have : (⟨s.toArray⟩ : ByteArray).data.toList = s := rfl
  rw [this]
  cases parseL s <;> rfl
theorem rpref_two (s : Wd) (hs : s.length < 4294967281) (W : World) : Calls Tryz.prog 67 #[.string ⟨s.toArray⟩] W fun e w' => e = .returned (.tuple #[.agg #[.int .u32 ((pfxOf (prefL s)).addr : Nat), .int .i64 (pfxOf (prefL s)).len], .int .i64 (if (prefL s).isNone then 2 else 0)]) ∧ Below W.heap.size W w' := by
  refine (rpref_any ⟨s.toArray⟩ (by rw [wd_size]; omega) W).mono ?_
  rintro e w' ⟨rfl, hb⟩
  refine ⟨?_, hb⟩
  have : (⟨s.toArray⟩ : ByteArray).data.toList = s := rfl
  rw [this]
  cases prefL s <;> rfl
def addrF (w : Ws) : Nat × Ws := ((parseL (nextF w).1).getD 0, (nextF w).2.orBad (parseL (nextF w).1).isNone)
set_option maxHeartbeats 1000000 in
theorem address_any (g : Nat) (ws : Ws) (W : World) (h : Rd 162 W g ws) :
    Calls Tryz.prog 160 #[.pointer (some ⟨g, 0, none⟩)] W fun e w' => e = .returned (.int .u32 ((addrF ws).1 : Nat)) ∧ Rd 162 w' g (addrF ws).2 ∧ Upto g W w' := by
  have HH := Lib.hid h
  have KN := Lib.hid (fun W' hr => rnext_any g ws W' hr)
  have KS := Lib.hid (nextF_short h)
  clear h
  unfold addrF
  generalize nextF ws = n at KN KS ⊢
  obtain ⟨x, w1⟩ := n
  dsimp only at KN KS ⊢
  have KP := Lib.hid (fun W' => rparse_two x KS.out W')
  generalize (parseL x).getD 0 = v at KP ⊢
  generalize (parseL x).isNone = no at KP ⊢
  cases no
  all_goals
    go_enter Tryz.func160, Tryz.ntmps160
    go_wp2_with (first
      | (go_at_call 117; refine (KN.out _ HH.out).mono ?_; rintro e W1 ⟨rfl, hr1, hu1⟩; have HR1 := Lib.hid hr1; have HU1 := Lib.hid hu1; clear hr1 hu1)
      | (go_at_call 115; refine (KP.out _).mono ?_; rintro e W2 ⟨rfl, hb1⟩; have HR2 := Lib.hid (HR1.out.below hb1); have HU2 := Lib.hid (HU1.out.trans (Upto.of_below hb1)); clear hb1; obtain ⟨c1, f1⟩ := HR2.out.cells))
    go_ret
  · exact ⟨rfl, by rw [orBad_eq, Bool.or_false]; exact HR2.out, HU2.out⟩
  · exact ⟨rfl, by rw [orBad_eq, Bool.or_true]; exact HR2.out.bad true, HU2.out.set⟩
end Go.Proofs.YtnmbbnhgoedjgaaGreatDoor.RuK
/- castellanref14.reader: proto, flags, pin. -/
namespace Go.Proofs.YtnmbbnhgoedjgaaGreatDoor.RuL
open Go Go.RowKit Go.Proofs.YtnmbbnhgoedjgaaGreatDoor.Ad1 Go.Proofs.YtnmbbnhgoedjgaaGreatDoor.St0 Go.Proofs.YtnmbbnhgoedjgaaGreatDoor.St1 Go.Proofs.YtnmbbnhgoedjgaaGreatDoor.St2 Go.Proofs.YtnmbbnhgoedjgaaGreatDoor.St3 Go.Proofs.YtnmbbnhgoedjgaaGreatDoor.St5 Go.Proofs.YtnmbbnhgoedjgaaGreatDoor.St8 Go.Proofs.YtnmbbnhgoedjgaaGreatDoor.St9 Go.Proofs.YtnmbbnhgoedjgaaGreatDoor.Ru0 Go.Proofs.YtnmbbnhgoedjgaaGreatDoor.Ru1 Go.Proofs.YtnmbbnhgoedjgaaGreatDoor.Ru6 Go.Proofs.YtnmbbnhgoedjgaaGreatDoor.Ru8 Go.Proofs.YtnmbbnhgoedjgaaGreatDoor.Ru9 Go.Proofs.YtnmbbnhgoedjgaaGreatDoor.RuB Go.Proofs.YtnmbbnhgoedjgaaGreatDoor.RuC Go.Proofs.YtnmbbnhgoedjgaaGreatDoor.RuE Go.Proofs.YtnmbbnhgoedjgaaGreatDoor.RuK
set_option linter.unusedVariables false
set_option linter.unusedSimpArgs false
set_option maxHeartbeats 1000000 in
theorem pinD_any (g : Nat) (ws : Ws) (W : World) (h : Rd 162 W g ws) :
    Calls Tryz.prog 123 #[.pointer (some ⟨g, 0, none⟩)] W fun e w' => e = .returned (.agg (pinC ⟨true, (nextF ws).1, (addrF (nextF ws).2).1⟩)) ∧ Rd 162 w' g (addrF (nextF ws).2).2 ∧ Upto g W w' := by
  have HB0 := Lib.hid (bnew W (.cells #[.bool false, .string ⟨#[]⟩, .int .u32 0] 73))
  have HX := Lib.hid (heap_alloc_new W (.cells #[.bool false, .string ⟨#[]⟩, .int .u32 0] 73))
  have HH := Lib.hid (h.below HB0.out)
  have hlt := h.lt
  have hne : W.heap.size ≠ g := by omega
  have KN := Lib.hid (fun W' hr => rnext_any g ws W' hr)
  clear h
  generalize nextF ws = n at KN ⊢
  obtain ⟨x, w1⟩ := n
  dsimp only at KN ⊢
  have KA := Lib.hid (fun W' hr => address_any g w1 W' hr)
  generalize addrF w1 = m at KA ⊢
  obtain ⟨v, w2⟩ := m
  dsimp only at KA ⊢
  go_enter Tryz.func123, Tryz.ntmps123
  go_wp2_with fail
  refine (KN.out _ HH.out).mono ?_
  rintro e W1 ⟨rfl, hr1, hu1⟩
  have HR1 := Lib.hid hr1
  have HU1 := Lib.hid ((Upto.of_below HB0.out).trans hu1)
  have HX1 := Lib.hid (hu1.row HX.out hne)
  have hsz : W.heap.size < W1.heap.size := by have := hu1.size; simp at this; omega
  have hg1 := hr1.lt
  clear hr1 hu1
  go_wp2_with fail
  have HB1 := Lib.hid (bnew W1 (.cells #[.bool true, .string ⟨x.toArray⟩, .int .u32 0] 73))
  have HR2 := Lib.hid (HR1.out.below HB1.out)
  have HX2 := row_step HX1 HB1.out
  have HP2 := Lib.hid (heap_alloc_new W1 (.cells #[.bool true, .string ⟨x.toArray⟩, .int .u32 0] 73))
  refine (KA.out _ HR2.out).mono ?_
  rintro e W3 ⟨rfl, hr1, hu1⟩
  have HR3 := Lib.hid hr1
  have HU3 := Lib.hid ((HU1.out.trans (Upto.of_below HB1.out)).trans hu1)
  have HX3 := Lib.hid (hu1.row HX2.out hne)
  have HP3 := Lib.hid (hu1.row HP2.out (by omega))
  clear hr1 hu1
  obtain ⟨a0, a1, a2, a3, a4, a5⟩ := box3 HX3.out
  obtain ⟨p0, p1, p2, p3, p4, p5⟩ := box3 HP3.out
  have hd : W1.heap.size ≠ W.heap.size := by omega
  generalize W1.heap.size = b at *
  go_wp2_with fail
  refine box_ret1 (set_at (set_at (set_at ((heap_setCell_other _ _ _ _ (fun e => hd e.symm)).trans HX3.out)))) rfl rfl Tryz.underlying73 (by kernel_rfl) rfl ⟨rfl, ?_, ?_⟩
  · exact HR3.out.above (set_b (set_b (set_b (set_b (Below.refl _ _) (by omega)) (by omega)) (by omega)) (by omega))
  · exact (((HU3.out.set_new (by omega)).set_new (Nat.le_refl _)).set_new (Nat.le_refl _)).set_new (Nat.le_refl _)
theorem rproto_three (n : Int) (h : n = 1 ∨ n = 6 ∨ n = 17) (w : World) :
    Calls Tryz.prog 133 #[.int .i64 n] w fun e w' => e = .returned (.string ⟨(protoW n).toArray⟩) ∧ w' = w := by
  rcases h with rfl | rfl | rfl
  all_goals
    go_enter Tryz.func133, Tryz.ntmps133
    go_wp2
    go_ret
    exact ⟨rfl, rfl⟩
theorem bits_at (w : Ws) (j : Nat) (hj : j < 64) : bitsF w (flagsW j) = (((j : Nat) : Int), w) := by
  unfold bitsF
  rw [Ru3.bits_all ⟨j, hj⟩]
/-- What the loop over the flags holds behind k rounds. -/
def Hit (s : Wd) (k m : Nat) : Prop := (∃ j, j < k ∧ flagsW j = s ∧ m = j) ∨ ((∀ j, j < k → flagsW j ≠ s) ∧ m = 0)
theorem hit_yes {s : Wd} {k m : Nat} (h : Hit s k m) (hk : flagsW k = s) : Hit s (k + 1) k := .inl ⟨k, by omega, hk, rfl⟩
theorem hit_no {s : Wd} {k m : Nat} (h : Hit s k m) (hk : flagsW k ≠ s) : Hit s (k + 1) m := by
  rcases h with ⟨j, hj, h1, h2⟩ | ⟨h1, h2⟩
  · exact .inl ⟨j, by omega, h1, h2⟩
  · refine .inr ⟨fun j hj => ?_, h2⟩
    by_cases e : j = k
    · subst e; exact hk
    · exact h1 j (by omega)
theorem hit_le {s : Wd} {k m : Nat} (h : Hit s k m) (hk : k ≤ 64) : m < 64 := by
  rcases h with ⟨j, hj, h1, h2⟩ | ⟨h1, h2⟩ <;> omega
set_option maxHeartbeats 1000000 in
theorem rflags_any (g : Nat) (ws : Ws) (s : Wd) (W : World) (h : Rd 162 W g ws) :
    Calls Tryz.prog 121 #[.pointer (some ⟨g, 0, none⟩), .string ⟨s.toArray⟩] W fun e w' => e = .returned (.int .i64 (bitsF ws s).1) ∧ Rd 162 w' g (bitsF ws s).2 ∧ Upto g W w' := by
  have HH := Lib.hid h
  obtain ⟨c1, f1⟩ := h.cells
  clear h
  go_enter Tryz.func121, Tryz.ntmps121
  go_wp2
  go_loopw [5, 6] (fun n i wr => ∃ k m : Nat, k ≤ 64 ∧ i = .int .i64 k ∧ n = .int .i64 m ∧ Hit s k m ∧ W = wr) (fun _ i _ => 64 - (intOf i).toNat)
  case atStart => exact ⟨0, 0, by omega, rfl, rfl, .inr ⟨fun j hj => absurd hj (by omega), rfl⟩, rfl⟩
  case round =>
    obtain ⟨k, m, hk, rfl, rfl, hh, rfl⟩ := hrel
    have HT := Lib.hid hh
    clear hh
    by_cases hlt : k < 64
    · have HF := Lib.hid (letters_any k hlt W)
      by_cases he : flagsW k = s
      · have hq : (flagsW k == s) = true := by rw [beq_iff_eq]; exact he
        have HE := Lib.hid (hit_yes HT.out he)
        clear he
        generalize hfl : flagsW k = fl at hq HF
        clear hfl
        go_wp2_with (go_at_call 135; refine HF.out.mono ?_; rintro e w1 ⟨rfl, rfl⟩)
        go_roundw
        case rel => exact ⟨k + 1, k, by omega, by go_num, rfl, HE.out, trivial⟩
        case measure => simp [intOf]; omega
      · have hq : (flagsW k == s) = false := by rw [beq_eq_false_iff_ne]; exact he
        have HE := Lib.hid (hit_no HT.out he)
        clear he
        generalize hfl : flagsW k = fl at hq HF
        clear hfl
        go_wp2_with (go_at_call 135; refine HF.out.mono ?_; rintro e w1 ⟨rfl, rfl⟩)
        go_roundw
        case rel => exact ⟨k + 1, m, by omega, by go_num, rfl, HE.out, trivial⟩
        case measure => simp [intOf]; omega
    · obtain rfl : k = 64 := by omega
      have hm := hit_le HT.out (Nat.le_refl _)
      have HF := Lib.hid (letters_any m hm W)
      rcases HT.out with ⟨j, hj, h1, h2⟩ | ⟨h1, h2⟩
      · subst h2
        have HB := Lib.hid (bits_at ws m hj)
        rw [h1] at HB
        have hq : (flagsW m == s) = true := by rw [beq_iff_eq]; exact h1
        clear h1
        generalize hfl : flagsW m = fl at hq HF
        clear hfl
        go_wp2_with (go_at_call 135; refine HF.out.mono ?_; rintro e w1 ⟨rfl, rfl⟩)
        go_ret
        exact ⟨by rw [HB.out]; rfl, by rw [HB.out]; exact HH.out, Upto.refl _ _⟩
      · subst h2
        have HB := Lib.hid (bits_miss ws s h1)
        have hq : (flagsW 0 == s) = false := by rw [beq_eq_false_iff_ne]; exact h1 0 (by decide)
        clear h1
        generalize hfl : flagsW 0 = fl at hq HF
        clear hfl
        go_wp2_with (go_at_call 135; refine HF.out.mono ?_; rintro e w1 ⟨rfl, rfl⟩)
        go_ret
        exact ⟨by rw [HB.out]; rfl, by rw [HB.out]; exact HH.out.bad true, (Upto.refl _ _).set⟩
end Go.Proofs.YtnmbbnhgoedjgaaGreatDoor.RuL
/- castellanref14.reader: proto. -/
namespace Go.Proofs.YtnmbbnhgoedjgaaGreatDoor.RuM
open Go Go.RowKit Go.Proofs.YtnmbbnhgoedjgaaGreatDoor.Ad1 Go.Proofs.YtnmbbnhgoedjgaaGreatDoor.St0 Go.Proofs.YtnmbbnhgoedjgaaGreatDoor.St1 Go.Proofs.YtnmbbnhgoedjgaaGreatDoor.St2 Go.Proofs.YtnmbbnhgoedjgaaGreatDoor.St3 Go.Proofs.YtnmbbnhgoedjgaaGreatDoor.St5 Go.Proofs.YtnmbbnhgoedjgaaGreatDoor.St8 Go.Proofs.YtnmbbnhgoedjgaaGreatDoor.St9 Go.Proofs.YtnmbbnhgoedjgaaGreatDoor.Ru0 Go.Proofs.YtnmbbnhgoedjgaaGreatDoor.Ru1 Go.Proofs.YtnmbbnhgoedjgaaGreatDoor.Ru6 Go.Proofs.YtnmbbnhgoedjgaaGreatDoor.Ru8 Go.Proofs.YtnmbbnhgoedjgaaGreatDoor.Ru9 Go.Proofs.YtnmbbnhgoedjgaaGreatDoor.RuA Go.Proofs.YtnmbbnhgoedjgaaGreatDoor.RuB Go.Proofs.YtnmbbnhgoedjgaaGreatDoor.RuC Go.Proofs.YtnmbbnhgoedjgaaGreatDoor.RuE Go.Proofs.YtnmbbnhgoedjgaaGreatDoor.RuK Go.Proofs.YtnmbbnhgoedjgaaGreatDoor.RuL
set_option linter.unusedVariables false
set_option linter.unusedSimpArgs false
theorem numR_range (w : Ws) (l : Wd) (m : Int) : 0 ≤ (numR w l m).1 ∧ (numR w l m).1 < 1000000000 := by
  unfold numR
  split
  · rename_i h
    have := okNum_lt h
    dsimp only
    omega
  · dsimp only; omega
/-- The first of the three named protocols that a word names. -/
def named (x : Wd) : Nat := if wIcmp = x then 0 else if wTcp = x then 1 else if wUdp = x then 2 else 3
theorem protoR_eq (w : Ws) : protoR w = (if wIcmp = (nextF w).1 then (1, (nextF w).2) else if wTcp = (nextF w).1 then (6, (nextF w).2) else if wUdp = (nextF w).1 then (17, (nextF w).2) else
  ((numR (nextF w).2 (nextF w).1 255).1, (numR (nextF w).2 (nextF w).1 255).2.orBad ((numR (nextF w).2 (nextF w).1 255).1 == 0 || decide (protoW (numR (nextF w).2 (nextF w).1 255).1 ≠ (nextF w).1)))) := rfl
theorem box3i {w : World} {g : Nat} {x y z : Value} {T : TypeId} (h : w.heap[g]? = some (.cells #[x, y, z] T (0, 0))) :
    w.cell? ⟨g, 0, none⟩ = some x ∧ w.cell? ⟨g, 1, none⟩ = some y ∧ w.cell? ⟨g, 2, none⟩ = some z :=
  ⟨(cell_of_row _ _ 0 _ _ _ h).trans rfl, (cell_of_row _ _ 1 _ _ _ h).trans rfl, (cell_of_row _ _ 2 _ _ _ h).trans rfl⟩
set_option maxHeartbeats 2000000 in
theorem rwproto_any (g : Nat) (ws : Ws) (W : World) (h : Rd 162 W g ws) :
    Calls Tryz.prog 119 #[.pointer (some ⟨g, 0, none⟩)] W fun e w' => e = .returned (.int .i64 (protoR ws).1) ∧ Rd 162 w' g (protoR ws).2 ∧ Upto g W w' := by
  have HH := Lib.hid h
  have hlt := h.lt
  have KN := Lib.hid (fun W' hr => rnext_any g ws W' hr)
  have KS := Lib.hid (nextF_short h)
  have HD := Lib.hid (protoR_eq ws)
  clear h
  generalize nextF ws = n at KN KS HD
  obtain ⟨x, w1⟩ := n
  dsimp only at KN KS HD
  go_enter Tryz.func119, Tryz.ntmps119
  go_wp2_with fail
  refine (KN.out _ HH.out).mono ?_
  rintro e W1 ⟨rfl, hr1, hu1⟩
  have HB1 := Lib.hid (bnew W1 (.cells #[.int .i64 1, .int .i64 6, .int .i64 17] 3))
  have HR1 := Lib.hid (hr1.below HB1.out)
  have HU1 := Lib.hid (hu1.trans (Upto.of_below HB1.out))
  obtain ⟨a0, a1, a2⟩ := box3i (heap_alloc_new W1 (.cells #[.int .i64 1, .int .i64 6, .int .i64 17] 3))
  clear hr1 hu1
  go_wp2_with fail
  generalize W1.alloc (.cells #[.int .i64 1, .int .i64 6, .int .i64 17] 3) = W2 at *
  generalize W1.heap.size = b at *
  go_loopw [5] (fun i wr => ∃ k : Nat, k ≤ 3 ∧ i = .int .i64 k ∧ k ≤ named x ∧ W2 = wr) (fun i _ => 3 - (intOf i).toNat)
  case atStart => exact ⟨0, by omega, rfl, by omega, rfl⟩
  case round =>
    obtain ⟨k, hk, rfl, hnm, rfl⟩ := hrel
    match k, hk with
    | 0, _ =>
      have KP := Lib.hid (fun W' => rproto_three 1 (by decide) W')
      have hpw : protoW 1 = wIcmp := rfl
      rw [hpw] at KP
      clear hpw
      by_cases he : wIcmp = x
      · have hq : (wIcmp == x) = true := by rw [beq_iff_eq]; exact he
        have hv : protoR ws = (1, w1) := HD.out.trans (by exact if_pos he)
        have HV := Lib.hid hv
        clear hv he hnm 
        generalize hwd : wIcmp = wd at KP hq
        clear hwd
        go_wp2_with (go_at_call 133; refine (KP.out _).mono ?_; rintro e W3 ⟨rfl, rfl⟩)
        go_ret
        exact ⟨by rw [HV.out]; rfl, by rw [HV.out]; exact HR1.out, HU1.out⟩
      · have hq : (wIcmp == x) = false := by rw [beq_eq_false_iff_ne]; exact he
        have hnx : 1 ≤ named x := by
          unfold named
          rw [if_neg he]
          (try split) <;> (try split) <;> omega
        have HNX := Lib.hid hnx
        clear he hnm hnx 
        generalize hwd : wIcmp = wd at KP hq
        clear hwd
        go_wp2_with (go_at_call 133; refine (KP.out _).mono ?_; rintro e W3 ⟨rfl, rfl⟩)
        go_roundw
        case rel => exact ⟨1, by omega, rfl, HNX.out, trivial⟩
        case measure => simp [intOf]
    | 1, _ =>
      have n0 : wIcmp ≠ x := by
        intro e
        unfold named at hnm
        simp [e] at hnm
      have KP := Lib.hid (fun W' => rproto_three 6 (by decide) W')
      have hpw : protoW 6 = wTcp := rfl
      rw [hpw] at KP
      clear hpw
      by_cases he : wTcp = x
      · have hq : (wTcp == x) = true := by rw [beq_iff_eq]; exact he
        have hv : protoR ws = (6, w1) := HD.out.trans (by rw [if_neg n0]; exact if_pos he)
        have HV := Lib.hid hv
        clear hv he hnm n0
        generalize hwd : wTcp = wd at KP hq
        clear hwd
        go_wp2_with (go_at_call 133; refine (KP.out _).mono ?_; rintro e W3 ⟨rfl, rfl⟩)
        go_ret
        exact ⟨by rw [HV.out]; rfl, by rw [HV.out]; exact HR1.out, HU1.out⟩
      · have hq : (wTcp == x) = false := by rw [beq_eq_false_iff_ne]; exact he
        have hnx : 2 ≤ named x := by
          unfold named
          rw [if_neg n0, if_neg he]
          (try split) <;> (try split) <;> omega
        have HNX := Lib.hid hnx
        clear he hnm hnx n0
        generalize hwd : wTcp = wd at KP hq
        clear hwd
        go_wp2_with (go_at_call 133; refine (KP.out _).mono ?_; rintro e W3 ⟨rfl, rfl⟩)
        go_roundw
        case rel => exact ⟨2, by omega, rfl, HNX.out, trivial⟩
        case measure => simp [intOf]
    | 2, _ =>
      have n0 : wIcmp ≠ x := by
        intro e
        unfold named at hnm
        simp [e] at hnm
      have n1 : wTcp ≠ x := by
        intro e
        unfold named at hnm
        rw [if_neg n0, if_pos e] at hnm
        omega
      have KP := Lib.hid (fun W' => rproto_three 17 (by decide) W')
      have hpw : protoW 17 = wUdp := rfl
      rw [hpw] at KP
      clear hpw
      by_cases he : wUdp = x
      · have hq : (wUdp == x) = true := by rw [beq_iff_eq]; exact he
        have hv : protoR ws = (17, w1) := HD.out.trans (by rw [if_neg n0]; rw [if_neg n1]; exact if_pos he)
        have HV := Lib.hid hv
        clear hv he hnm n0 n1
        generalize hwd : wUdp = wd at KP hq
        clear hwd
        go_wp2_with (go_at_call 133; refine (KP.out _).mono ?_; rintro e W3 ⟨rfl, rfl⟩)
        go_ret
        exact ⟨by rw [HV.out]; rfl, by rw [HV.out]; exact HR1.out, HU1.out⟩
      · have hq : (wUdp == x) = false := by rw [beq_eq_false_iff_ne]; exact he
        have hnx : 3 ≤ named x := by
          unfold named
          rw [if_neg n0, if_neg n1, if_neg he]
          omega
        have HNX := Lib.hid hnx
        clear he hnm hnx n0 n1
        generalize hwd : wUdp = wd at KP hq
        clear hwd
        go_wp2_with (go_at_call 133; refine (KP.out _).mono ?_; rintro e W3 ⟨rfl, rfl⟩)
        go_roundw
        case rel => exact ⟨3, by omega, rfl, HNX.out, trivial⟩
        case measure => simp [intOf]
    | 3, _ =>
      have n0 : wIcmp ≠ x := by
        intro e
        unfold named at hnm
        simp [e] at hnm
      have n1 : wTcp ≠ x := by
        intro e
        unfold named at hnm
        rw [if_neg n0, if_pos e] at hnm
        omega
      have n2 : wUdp ≠ x := by
        intro e
        unfold named at hnm
        rw [if_neg n0, if_neg n1, if_pos e] at hnm
        omega
      have hv := HD.out
      rw [if_neg n0, if_neg n1, if_neg n2] at hv
      clear n0 n1 n2 hnm HD
      have KM := Lib.hid (fun W' hr => rnum_any g w1 x (by have := KS.out; omega) 255 W' hr)
      obtain ⟨r0, r1⟩ := numR_range w1 x 255
      generalize numR w1 x 255 = m at KM r0 r1 hv
      obtain ⟨v, w2⟩ := m
      dsimp only at KM r0 r1 hv
      have KP := Lib.hid (fun W' => rproto_any v r0 (by omega) W')
      have HV := Lib.hid hv
      clear hv
      cases hbad : w2.bad with
      | true =>
        have HBAD := Lib.hid hbad
        clear hbad
        go_wp2_with (go_at_call 122; refine (KM.out _ HR1.out).mono ?_; rintro e W4 ⟨rfl, hr1, hu1⟩; have HR2 := Lib.hid hr1; have HU2 := Lib.hid (HU1.out.trans hu1); clear hr1 hu1; obtain ⟨c1, f1⟩ := HR2.out.cells; rw [HBAD.out] at c1)
        go_ret
        exact ⟨by rw [HV.out]; rfl, by rw [HV.out, orBad_eq, HBAD.out]; exact HR2.out.bad _, HU2.out.set⟩
      | false =>
        have HBAD := Lib.hid hbad
        clear hbad
        by_cases hz : v = 0
        · subst hz
          go_wp2_with (go_at_call 122; refine (KM.out _ HR1.out).mono ?_; rintro e W4 ⟨rfl, hr1, hu1⟩; have HR2 := Lib.hid hr1; have HU2 := Lib.hid (HU1.out.trans hu1); clear hr1 hu1; obtain ⟨c1, f1⟩ := HR2.out.cells; rw [HBAD.out] at c1)
          go_ret
          exact ⟨by rw [HV.out]; rfl, by rw [HV.out, orBad_eq, HBAD.out]; exact HR2.out.bad _, HU2.out.set⟩
        · have qv : (v == 0) = false := by rw [beq_eq_false_iff_ne]; exact hz
          have QV := Lib.hid qv
          clear hz
          generalize protoW v = pw at KP HV
          cases hq : (pw == x)
          all_goals
            have HQ : Hid (decide (pw ≠ x) = !(pw == x)) := by
              have : decide (pw ≠ x) = !(pw == x) := by rw [Bool.eq_iff_iff]; simp
              exact Lib.hid this
            have HQ2 := Lib.hid hq
            go_wp2_with (first
              | (go_at_call 122; refine (KM.out _ HR1.out).mono ?_; rintro e W4 ⟨rfl, hr1, hu1⟩; have HR2 := Lib.hid hr1; have HU2 := Lib.hid (HU1.out.trans hu1); clear hr1 hu1; obtain ⟨c1, f1⟩ := HR2.out.cells; rw [HBAD.out] at c1)
              | (go_at_call 133; refine (KP.out _).mono ?_; rintro e W5 ⟨rfl, hb1⟩; have HR3 := Lib.hid (HR2.out.below hb1); have HU3 := Lib.hid (HU2.out.trans (Upto.of_below hb1)); clear hb1; obtain ⟨c2, f2⟩ := HR3.out.cells; rw [HBAD.out] at c2))
            go_ret
            exact ⟨by rw [HV.out]; rfl, by rw [HV.out, orBad_eq, HBAD.out, QV.out, HQ.out, HQ2.out]; exact HR3.out.bad _, HU3.out.set⟩
end Go.Proofs.YtnmbbnhgoedjgaaGreatDoor.RuM

