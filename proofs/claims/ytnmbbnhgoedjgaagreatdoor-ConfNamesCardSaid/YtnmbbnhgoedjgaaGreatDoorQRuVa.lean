/- rule.Is. What a rule that is read holds to; the words of a text by the library's FieldsFunc. castellanref14: Name, all, side, pin: what may be. A rule's text: its words, some of them joined already. -/
import Derived.Test.YtnmbbnhgoedjgaaGreatDoorQMem
import Derived.Test.YtnmbbnhgoedjgaaGreatDoorQRuG
import Derived.Test.YtnmbbnhgoedjgaaGreatDoorQRu5
import Derived.Test.YtnmbbnhgoedjgaaGreatDoorQStA
import Derived.Test.YtnmbbnhgoedjgaaGreatDoorQAd2
import Derived.Test.YtnmbbnhgoedjgaaGreatDoorQCf3
import Derived.BigGuardPart
import Derived.Deep.MidRow
import Derived.BigFrame
import Derived.Lib.FieldsP
import Derived.Lib.DecodeN
import Derived.RegionTactic
import Derived.BigRegion
import Derived.Deep.DeepCutAuto
namespace Go.Proofs.YtnmbbnhgoedjgaaGreatDoor.RuH
open Go Go.RowKit Go.Proofs.YtnmbbnhgoedjgaaGreatDoor.Ad0 Go.Proofs.YtnmbbnhgoedjgaaGreatDoor.Ad1 Go.Proofs.YtnmbbnhgoedjgaaGreatDoor.St3 Go.Proofs.YtnmbbnhgoedjgaaGreatDoor.Ru0 Go.Proofs.YtnmbbnhgoedjgaaGreatDoor.Ru6 Go.Proofs.YtnmbbnhgoedjgaaGreatDoor.RuB Go.Proofs.YtnmbbnhgoedjgaaGreatDoor.RuC Go.Proofs.YtnmbbnhgoedjgaaGreatDoor.RuD Go.Proofs.YtnmbbnhgoedjgaaGreatDoor.RuE Go.Proofs.YtnmbbnhgoedjgaaGreatDoor.RuF Go.Proofs.YtnmbbnhgoedjgaaGreatDoor.RuG
set_option linter.unusedVariables false
set_option linter.unusedSimpArgs false
/-- What a rule in memory holds to: no word is too long, each address fits. -/
structure Fits (r : RuleM) : Prop where
  on : r.on.length ≤ 9223372036854775807
  ft : r.frm.table.length ≤ 9223372036854775807
  fp : r.frm.pfx.ok
  dt : r.dst.table.length ≤ 9223372036854775807
  dp : r.dst.pfx.ok
  ri : r.routeTo.iface.length ≤ 9223372036854775807
  pi : r.replyTo.iface.length ≤ 9223372036854775807
  rg : r.routeTo.gate < 4294967296
  pg : r.replyTo.gate < 4294967296
  set : -9223372036854775808 ≤ r.set ∧ r.set ≤ 9223372036854775807
theorem ruleP_chain (r : RuleM) : ruleP r = (!(r.ret && r.pass) && (passP r && ((decide (r.on = []) || nameL r.on) && (lookP r && (sideP r.frm r.proto && (sideP r.dst r.proto && (pinP r.routeTo && (pinP r.replyTo && (decide (0 ≤ r.table) && decide (r.table < 4)))))))))) := by
  unfold ruleP
  simp only [Bool.and_assoc]
set_option maxRecDepth 100000 in
set_option maxHeartbeats 4000000 in
theorem isP_any (r : RuleM) (h : Fits r) (w : World) :
    Calls Tryz.prog 47 #[.agg (ruleC r)] w fun e w' => e = .returned (.bool (ruleP r)) ∧ Below w.heap.size w w' := by
  have K1 : Hid (∀ W, Calls Tryz.prog 92 #[.agg (ruleC r)] W fun e w' => e = .returned (.bool (passP r)) ∧ Below W.heap.size W w') := fun W => isPass_any r W
  have K2 := Lib.hid (fun W => name_any r.on h.on W)
  have K3 := Lib.hid (fun W => isLook_any r W)
  have K4 := Lib.hid (fun W => isSide_any r.frm r.proto h.ft h.fp W)
  have K5 := Lib.hid (fun W => isSide_any r.dst r.proto h.dt h.dp W)
  have K6 := Lib.hid (fun W => isPin_any r.routeTo h.ri W)
  have K7 := Lib.hid (fun W => isPin_any r.replyTo h.pi W)
  have HC := Lib.hid (ruleP_chain r)
  generalize passP r = b1 at K1 HC
  generalize nameL r.on = b2 at K2 HC
  generalize lookP r = b3 at K3 HC
  generalize sideP r.frm r.proto = b4 at K4 HC
  generalize sideP r.dst r.proto = b5 at K5 HC
  generalize pinP r.routeTo = b6 at K6 HC
  generalize pinP r.replyTo = b7 at K7 HC
  have HB := Lib.hid (bnew w (.cells (ruleC r) 75))
  have HR := Lib.hid (heap_alloc_new w (.cells (ruleC r) 75))
  have HI := Tryz.underlying75
  have d0 := rc0 r
  have d1 := rc1 r
  have d3 := rc3 r
  have d4 := rc4 r
  have d27 := rc27 r
  have hi32 : (Tryz.prog.info? 75).map (·.size) = some (ruleC r).size := by kernel_rfl
  have HI32 := Lib.hid hi32
  have hi28 : ∀ s : SideM, (Tryz.prog.info? 71).map (·.size) = some (sideC s).size := fun _ => by kernel_rfl
  have HI28 := Lib.hid hi28
  have hi30 : ∀ s : PinM, (Tryz.prog.info? 73).map (·.size) = some (pinC s).size := fun _ => by kernel_rfl
  have HI30 := Lib.hid hi30
  clear h HI hi32 hi28 hi30
  go_enter Tryz.func47, Tryz.ntmps47
  go_wp2_with (first
    | ((with_reducible refine Mem.load_row w.heap.size ?_ HR.out Tryz.underlying75 HI32.out ?_ ?_); rfl; rfl)
    | ((with_reducible refine Mem.load_part w.heap.size 5 6 ?_ HR.out (ex_frm r) Tryz.underlying71 (HI28.out _) ?_ ?_); rfl; rfl)
    | ((with_reducible refine Mem.load_part w.heap.size 11 6 ?_ HR.out (ex_dst r) Tryz.underlying71 (HI28.out _) ?_ ?_); rfl; rfl)
    | ((with_reducible refine Mem.load_part w.heap.size 21 3 ?_ HR.out (ex_route r) Tryz.underlying73 (HI30.out _) ?_ ?_); rfl; rfl)
    | ((with_reducible refine Mem.load_part w.heap.size 24 3 ?_ HR.out (ex_reply r) Tryz.underlying73 (HI30.out _) ?_ ?_); rfl; rfl)
    | (go_at_call 92; first | ((with_reducible refine (K1.out _).mono ?_); rintro e w1 ⟨rfl, hb1⟩; have HB := Lib.hid (bstep HB.out hb1 HB.out.size); have HR := row_step HR hb1; have hc : ∀ j, w1.cell? ⟨w.heap.size, j, none⟩ = (ruleC r)[j]? := fun j => cell_of_row _ _ _ _ _ _ HR.out; clear hb1))
    | (go_at_call 63; first | ((with_reducible refine (K2.out _).mono ?_); rintro e w1 ⟨rfl, hb1⟩; have HB := Lib.hid (bstep HB.out hb1 HB.out.size); have HR := row_step HR hb1; have hc : ∀ j, w1.cell? ⟨w.heap.size, j, none⟩ = (ruleC r)[j]? := fun j => cell_of_row _ _ _ _ _ _ HR.out; clear hb1))
    | (go_at_call 93; first | ((with_reducible refine (K3.out _).mono ?_); rintro e w1 ⟨rfl, hb1⟩; have HB := Lib.hid (bstep HB.out hb1 HB.out.size); have HR := row_step HR hb1; have hc : ∀ j, w1.cell? ⟨w.heap.size, j, none⟩ = (ruleC r)[j]? := fun j => cell_of_row _ _ _ _ _ _ HR.out; clear hb1))
    | (go_at_call 94; first | ((with_reducible refine (K4.out _).mono ?_); rintro e w1 ⟨rfl, hb1⟩; have HB := Lib.hid (bstep HB.out hb1 HB.out.size); have HR := row_step HR hb1; have hc : ∀ j, w1.cell? ⟨w.heap.size, j, none⟩ = (ruleC r)[j]? := fun j => cell_of_row _ _ _ _ _ _ HR.out; clear hb1) | ((with_reducible refine (K5.out _).mono ?_); rintro e w1 ⟨rfl, hb1⟩; have HB := Lib.hid (bstep HB.out hb1 HB.out.size); have HR := row_step HR hb1; have hc : ∀ j, w1.cell? ⟨w.heap.size, j, none⟩ = (ruleC r)[j]? := fun j => cell_of_row _ _ _ _ _ _ HR.out; clear hb1))
    | (go_at_call 95; first | ((with_reducible refine (K6.out _).mono ?_); rintro e w1 ⟨rfl, hb1⟩; have HB := Lib.hid (bstep HB.out hb1 HB.out.size); have HR := row_step HR hb1; have hc : ∀ j, w1.cell? ⟨w.heap.size, j, none⟩ = (ruleC r)[j]? := fun j => cell_of_row _ _ _ _ _ _ HR.out; clear hb1) | ((with_reducible refine (K7.out _).mono ?_); rintro e w1 ⟨rfl, hb1⟩; have HB := Lib.hid (bstep HB.out hb1 HB.out.size); have HR := row_step HR hb1; have hc : ∀ j, w1.cell? ⟨w.heap.size, j, none⟩ = (ruleC r)[j]? := fun j => cell_of_row _ _ _ _ _ _ HR.out; clear hb1)))
  all_goals go_ret
  all_goals exact ⟨by rw [HC.out]; simp_all <;> (try intros) <;> omega, HB.out⟩
end Go.Proofs.YtnmbbnhgoedjgaaGreatDoor.RuH

namespace Go.Proofs.YtnmbbnhgoedjgaaGreatDoor.RuI
open Go Go.RowKit Go.Proofs.YtnmbbnhgoedjgaaGreatDoor.Ad0 Go.Proofs.YtnmbbnhgoedjgaaGreatDoor.St1 Go.Proofs.YtnmbbnhgoedjgaaGreatDoor.St2 Go.Proofs.YtnmbbnhgoedjgaaGreatDoor.St3 Go.Proofs.YtnmbbnhgoedjgaaGreatDoor.Ru0 Go.Proofs.YtnmbbnhgoedjgaaGreatDoor.Ru1 Go.Proofs.YtnmbbnhgoedjgaaGreatDoor.Ru4 Go.Proofs.YtnmbbnhgoedjgaaGreatDoor.Ru5 Go.Proofs.YtnmbbnhgoedjgaaGreatDoor.Ru6 Go.Proofs.YtnmbbnhgoedjgaaGreatDoor.RuB Go.Proofs.YtnmbbnhgoedjgaaGreatDoor.RuC Go.Proofs.YtnmbbnhgoedjgaaGreatDoor.RuE
set_option linter.unusedVariables false
set_option linter.unusedSimpArgs false
def shortW (ws : Ws) : Prop := ∀ x ∈ ws.l, x.length < 4294967281
theorem takesP_short {ws : Ws} (h : shortW ws) (x : Wd) : shortW (takesP ws x).2 := by
  obtain ⟨l, b⟩ := ws
  cases l with
  | nil => exact h
  | cons a t =>
    unfold takesP
    dsimp only
    split
    · exact fun y hy => h y (List.mem_cons_of_mem _ hy)
    · exact h
theorem nextF_short' {ws : Ws} (h : shortW ws) : (nextF ws).1.length < 4294967281 := by
  obtain ⟨l, b⟩ := ws
  cases l with
  | nil => simp [nextF]
  | cons x t => exact h x (by simp)
theorem num4_lt {ps : List (List UInt8)} {a : Nat} (h : num4 ps = some a) : a < 4294967296 := by
  unfold num4 at h
  split at h
  · rename_i p q r s
    split at h
    · rename_i h1
      split at h
      · rename_i h2
        split at h
        · rename_i h3
          split at h
          · rename_i h4
            simp only [Bool.and_eq_true, decide_eq_true_eq] at h1 h2 h3 h4
            have := Option.some.inj h
            omega
          · cases h
        · cases h
      · cases h
    · cases h
  · cases h
theorem parseL_lt (l : Wd) : (parseL l).getD 0 < 4294967296 := by
  cases h : parseL l with
  | none => decide
  | some a => exact num4_lt h
theorem prefL_ok (l : Wd) : (pfxOf (prefL l)).ok := by
  have key : ∀ p, prefL l = some p → p.ok := by
    intro p h
    unfold prefL at h
    split at h
    · split at h
      · rw [Option.map_eq_some_iff] at h
        obtain ⟨a, ha, rfl⟩ := h
        exact num4_lt ha
      · cases h
    · rw [Option.map_eq_some_iff] at h
      obtain ⟨a, ha, rfl⟩ := h
      exact num4_lt ha
  cases h : prefL l with
  | none => show (0 : Nat) < 4294967296; decide
  | some p => exact key p h
theorem portsP_who (s : SideM) (w : Ws) : (portsP s w).1.table = s.table ∧ (portsP s w).1.pfx = s.pfx := by
  unfold portsP
  dsimp only
  split
  · split <;> exact ⟨rfl, rfl⟩
  · exact ⟨rfl, rfl⟩
theorem sideF_fits {ws : Ws} (h : shortW ws) : (sideF ws).1.table.length ≤ 9223372036854775807 ∧ (sideF ws).1.pfx.ok := by
  unfold sideF
  dsimp only
  rw [(portsP_who _ _).1, (portsP_who _ _).2, whoP_eq]
  have h1 := nextF_short' h
  generalize (nextF ws).1 = x at h1
  unfold whoF
  split
  · exact ⟨by simp, by show (0 : Nat) < 4294967296; decide⟩
  · split
    · exact ⟨by show (inner x).length ≤ _; unfold inner; simp; omega, by show (0 : Nat) < 4294967296; decide⟩
    · exact ⟨by simp, prefL_ok x⟩
theorem onP_fits {ws : Ws} (h : shortW ws) : (onP ws).1.length ≤ 9223372036854775807 := by
  unfold onP
  dsimp only
  split
  · have := nextF_short' (takesP_short h wOn)
    dsimp only
    omega
  · simp
theorem pinF_fits {ws : Ws} (h : shortW ws) (x : Wd) : (pinF ws x).1.iface.length ≤ 9223372036854775807 ∧ (pinF ws x).1.gate < 4294967296 := by
  unfold pinF
  dsimp only
  split
  · have := nextF_short' (takesP_short h x)
    exact ⟨by dsimp only; omega, parseL_lt _⟩
  · exact ⟨by simp, by show (0 : Nat) < 4294967296; decide⟩
theorem bitsF_range (w : Ws) (s : Wd) : 0 ≤ (bitsF w s).1 ∧ (bitsF w s).1 ≤ 63 := by
  unfold bitsF
  split
  · rename_i n h
    have := List.mem_of_find?_eq_some h
    simp at this
    dsimp only
    omega
  · simp
theorem flagsP_range (w : Ws) : 0 ≤ (flagsP w).1.1 ∧ (flagsP w).1.1 ≤ 63 := by
  rw [flagsP_eq]
  split
  · exact bitsF_range _ _
  · simp
def ruleV (r : Option RuleM) : Value := match r with
  | some r => .tuple #[.agg (ruleC r), .int .i64 0]
  | none => .tuple #[.agg (ruleC {}), .int .i64 2]
theorem ruleOf_chain (l : List Wd) (h : Bool × Ws) (a b : Bool × Ws) (o : Wd × Ws) (pr : Int × Ws) (fr dt : SideM × Ws) (fl : (Int × Int) × Ws) (ty : Int × Ws) (k : Bool × Ws) (ro re : PinM × Ws) (tb : Int × Ws)
    (e1 : headP ⟨l, false⟩ = h) (e2 : takesP h.2 wReturn = a) (e3 : takesP a.2 wQuick = b) (e4 : onP b.2 = o) (e5 : prP o.2 = pr) (e6 : sideF (kwP pr.2 wFrom) = fr) (e7 : sideF (kwP fr.2 wTo) = dt) (e8 : flagsP dt.2 = fl) (e9 : typeP fl.2 = ty) (e10 : takesP ty.2 wKeep = k) (e11 : pinF k.2 wRoute = ro) (e12 : pinF ro.2 wReply = re) (e13 : tableP re.2 = tb) :
    ruleOf l = endP { pass := h.1, ret := a.1, quick := b.1, on := o.1, proto := pr.1, frm := fr.1, dst := dt.1, set := fl.1.1, mask := fl.1.2, typ := ty.1, keep := k.1, routeTo := ro.1, replyTo := re.1, table := tb.1 } tb.2 := by
  subst e13 e12 e11 e10 e9 e8 e7 e6 e5 e4 e3 e2 e1
  rfl
theorem blank_pays (w : World) : PredAt Tryz.prog 106 #[] encR (fun r => r == 32) w := by
  intro W r _
  unfold FnGives encR
  go_enter Tryz.func106, Tryz.ntmps106
  go_wp2
  go_ret
  exact ⟨by rw [show ((r : Int) == 32) = (r == 32) from by rw [Bool.eq_iff_iff]; simp; omega]; rfl, 0, rfl⟩
/-- The words of a text, in memory. -/
theorem fields_any (s : ByteArray) (hs : s.size < 4294967281) (w : World) :
    Calls Tryz.prog 25 #[.string s, .func (.func 106) #[] #[]] w fun e w' => ∃ A, e = .returned (.slice (some ⟨A, 0, none⟩) (wordsL s.data.toList).length (wordsL s.data.toList).length) ∧ w.heap.size ≤ A ∧ A < w'.heap.size ∧
      (∀ (j : Nat) (x : Wd), (wordsL s.data.toList)[j]? = some x → w'.cell? ⟨A, j, none⟩ = some (.string ⟨x.toArray⟩)) ∧ (∀ x ∈ wordsL s.data.toList, x.length < 4294967281) ∧ Below w.heap.size w w' := by
  refine (Tryz.strings_FieldsFunc 106 #[] (enters_of Tryz.func106 (by kernel_rfl) rfl) (fun r => r == 32) s w (by omega) (blank_pays w)).mono ?_
  rintro e w' ⟨A, rfl, hA, ho, hb⟩
  have hf := fields_words s
  have hl := fields_len s
  generalize Lib.goFieldsP (fun r => r == 32) s = xs at ho hf hl
  rw [← hf]
  rw [List.length_map]
  refine ⟨A, rfl, hA, ?_, ?_, ?_, hb⟩
  · rcases ho.2 with ⟨h1, _⟩ | ⟨g, cap, cur, hv, hbg, hg, h3⟩
    · cases h1
    · injection hv with h4
      injection h4 with h5
      injection h5 with h6
      subst h6
      exact blk_lt' hg
  · intro j x hj
    rw [List.getElem?_map, Option.map_eq_some_iff] at hj
    obtain ⟨b, hb1, rfl⟩ := hj
    have hjl : j < xs.length := (List.getElem?_eq_some_iff.1 hb1).1
    have := ho.cellAt (g := A) (j := j) (by simpa using hjl)
    rw [this, List.getElem?_map, hb1]
    rfl
  · intro x hx
    obtain ⟨b, hb1, rfl⟩ := List.mem_map.1 hx
    have := hl b hb1
    rw [← size_data]
    omega
end Go.Proofs.YtnmbbnhgoedjgaaGreatDoor.RuI

namespace Go.Proofs.YtnmbbnhgoedjgaaGreatDoor.RuQ
open Go Go.RowKit Go.Proofs.YtnmbbnhgoedjgaaGreatDoor.Ad0 Go.Proofs.YtnmbbnhgoedjgaaGreatDoor.Ad1 Go.Proofs.YtnmbbnhgoedjgaaGreatDoor.St1 Go.Proofs.YtnmbbnhgoedjgaaGreatDoor.St5 Go.Proofs.YtnmbbnhgoedjgaaGreatDoor.Ru0
set_option linter.unusedVariables false
set_option linter.unusedSimpArgs false
theorem sign_yes (b : UInt8) (h : isSign b = true) : (97 ≤ (b.toNat : Int) ∧ (b.toNat : Int) ≤ 122) ∨ ((b.toNat : Int) < 97 ∧ 48 ≤ (b.toNat : Int) ∧ (b.toNat : Int) ≤ 57) := by
  unfold isSign at h
  simp only [Bool.or_eq_true, decide_eq_true_eq] at h
  omega
theorem sign_no (b : UInt8) (h : isSign b = false) : ((b.toNat : Int) < 97 ∧ (b.toNat : Int) < 48) ∨ ((b.toNat : Int) < 97 ∧ 48 ≤ (b.toNat : Int) ∧ 57 < (b.toNat : Int)) ∨ (97 ≤ (b.toNat : Int) ∧ 122 < (b.toNat : Int)) := by
  unfold isSign at h
  simp only [Bool.or_eq_false_iff, decide_eq_false_iff_not] at h
  omega
set_option maxHeartbeats 2000000 in
theorem rname_any (s : ByteArray) (hs : s.size ≤ 9223372036854775807) (w : World) :
    Calls Tryz.prog 50 #[.string s] w fun e w' => e = .returned (.bool (nameL s.data.toList)) ∧ w' = w := by
  go_enter Tryz.func50, Tryz.ntmps50
  go_wp2
  go_loopw [3] (fun i wr => ∃ k : Nat, k ≤ s.size ∧ i = .int .i64 k ∧ (s.data.toList.take k).all isSign = true ∧ wr = w) (fun i _ => (s.size - intOf i).toNat)
  case atStart => exact ⟨0, by omega, rfl, by simp, rfl⟩
  case round =>
    obtain ⟨k, hk, rfl, hall, rfl⟩ := hrel
    have HA := Lib.hid hall
    clear hall
    by_cases hlt : k < s.size
    · have hlt' : (k : Int) < s.size := by omega
      have hst := take_step s k hlt
      cases hb : isSign s[k] with
      | true =>
        have HN : Hid ((s.data.toList.take (k + 1)).all isSign = true) := by
          have : (s.data.toList.take (k + 1)).all isSign = true := by rw [hst, List.all_append, HA.out]; simp [hb]
          exact Lib.hid this
        clear hst
        rcases sign_yes _ hb with ⟨h1, h2⟩ | ⟨h1, h2, h3⟩
        all_goals
          clear hb
          go_wp2_with fail
          all_goals first
            | (exfalso; omega)
            | (go_roundw
               case rel => exact ⟨k + 1, by omega, by go_num, HN.out, trivial⟩
               case measure => simp only [intOf]; omega)
      | false =>
        have hno : nameL s.data.toList = false := by
          unfold nameL
          have : s.data.toList.all isSign = false := by
            rw [Bool.eq_false_iff]
            intro ha
            have h1 := List.all_eq_true.1 ha s[k] (by exact List.mem_of_getElem? (at_list s k hlt))
            rw [hb] at h1
            cases h1
          rw [this, Bool.and_false]
        have HN := Lib.hid hno
        clear hst hno
        rcases sign_no _ hb with ⟨h1, h2⟩ | ⟨h1, h2, h3⟩ | ⟨h1, h2⟩
        all_goals
          clear hb
          go_wp2_with fail
          all_goals first
            | (exfalso; omega)
            | (go_ret; exact ⟨by rw [HN.out]; rfl, rfl⟩)
    · obtain rfl : k = s.size := by omega
      have hv : nameL s.data.toList = (decide (1 ≤ s.size) && decide (s.size ≤ 8)) := by
        have e : s.data.toList.take s.size = s.data.toList := List.take_of_length_le (by rw [← size_data]; exact Nat.le_refl _)
        have ha := HA.out
        rw [e] at ha
        unfold nameL
        rw [ha, Bool.and_true, size_data]
        congr 1
        cases s.data.toList <;> simp
      by_cases z1 : 1 ≤ s.size <;> by_cases z8 : s.size ≤ 8
      all_goals
        have hv' := hv
        simp only [z1, z8, decide_true, decide_false, Bool.and_true, Bool.and_false, Bool.and_self] at hv'
        have HV := Lib.hid hv'
        clear hv' hv
        go_wp2
        all_goals first
          | (exfalso; omega)
          | (go_ret; exact ⟨by rw [HV.out]; simp_all <;> omega, rfl⟩)
end Go.Proofs.YtnmbbnhgoedjgaaGreatDoor.RuQ
/- castellanref14: all, side, pin: what may be. -/
namespace Go.Proofs.YtnmbbnhgoedjgaaGreatDoor.RuR
open Go Go.RowKit Go.Proofs.YtnmbbnhgoedjgaaGreatDoor.Ad0 Go.Proofs.YtnmbbnhgoedjgaaGreatDoor.Ad1 Go.Proofs.YtnmbbnhgoedjgaaGreatDoor.Ad2 Go.Proofs.YtnmbbnhgoedjgaaGreatDoor.St1 Go.Proofs.YtnmbbnhgoedjgaaGreatDoor.St3 Go.Proofs.YtnmbbnhgoedjgaaGreatDoor.St5 Go.Proofs.YtnmbbnhgoedjgaaGreatDoor.Ru0 Go.Proofs.YtnmbbnhgoedjgaaGreatDoor.Ru9 Go.Proofs.YtnmbbnhgoedjgaaGreatDoor.RuB Go.Proofs.YtnmbbnhgoedjgaaGreatDoor.RuE Go.Proofs.YtnmbbnhgoedjgaaGreatDoor.RuG Go.Proofs.YtnmbbnhgoedjgaaGreatDoor.RuQ
set_option linter.unusedVariables false
set_option linter.unusedSimpArgs false
theorem rname_w (s : Wd) (hs : s.length ≤ 9223372036854775807) (w : World) : Calls Tryz.prog 50 #[.string ⟨s.toArray⟩] w fun e w' => e = .returned (.bool (nameL s)) ∧ w' = w :=
  rname_any ⟨s.toArray⟩ (by rw [wd_size]; exact hs) w
theorem all_any (a b : Int) (w : World) : Calls Tryz.prog 139 #[.agg #[.int .i64 a, .int .i64 b]] w fun e w' => e = .returned (.bool (a == 0 && b == 65535)) ∧ Below w.heap.size w w' := by
  go_enter Tryz.func139, Tryz.ntmps139
  go_wp2
  all_goals (go_ret; exact ⟨by simp_all, bnew _ _⟩)
set_option maxHeartbeats 1000000 in
theorem rpin_any (p : PinM) (hs : p.iface.length ≤ 9223372036854775807) (w : World) :
    Calls Tryz.prog 98 #[.agg (pinC p)] w fun e w' => e = .returned (.bool (pinR p)) ∧ Below w.heap.size w w' := by
  have KN := Lib.hid (fun W => rname_w p.iface hs W)
  obtain ⟨on, iface, gate⟩ := p
  unfold pinR pinC
  dsimp only at KN ⊢
  cases on
  all_goals
    cases hn : nameL iface
    all_goals
      rw [hn] at KN
      go_enter Tryz.func98, Tryz.ntmps98
      go_wp2_with (go_at_call 50; refine (KN.out _).mono ?_; rintro e w1 ⟨rfl, rfl⟩)
      all_goals (go_ret; exact ⟨by simp_all, bnew _ _⟩)
/-- Are the ports of an end not so? -/
def portBad (s : SideM) (ported : Bool) : Bool := decide (s.low < 0) || decide (65535 < s.high) || decide (s.high < s.low) || (!ported && !allP s)
theorem sideR_eq (s : SideM) (b : Bool) : sideR s b = if portBad s b then false else if s.any then decide (s.table = []) && decide (s.pfx = ⟨0, 0⟩) else if s.table ≠ [] then nameL s.table && decide (s.pfx = ⟨0, 0⟩) else isF s.pfx := rfl
set_option maxRecDepth 100000 in
set_option maxHeartbeats 4000000 in
theorem rside_any (s : SideM) (p : Bool) (hs : s.table.length ≤ 9223372036854775807) (hp : s.pfx.ok) (w : World) :
    Calls Tryz.prog 97 #[.agg (sideC s), .bool p] w fun e w' => e = .returned (.bool (sideR s p)) ∧ Below w.heap.size w w' := by
  have KN := Lib.hid (fun W => rname_w s.table hs W)
  have KI := Lib.hid (fun W => ris_any s.pfx hp W)
  have KA := Lib.hid (fun W => all_any s.low s.high W)
  have hap : (s.low == 0 && s.high == 65535) = allP s := rfl
  rw [hap] at KA
  clear hap
  have HB0 := Lib.hid (bnew w (.cells (sideC s) 71))
  have HR0 := Lib.hid (heap_alloc_new w (.cells (sideC s) 71))
  obtain ⟨s0, s1, s2, s3, s4, s5⟩ := sc s
  have HZ := Lib.hid (pfx_zero s.pfx)
  go_enter Tryz.func97, Tryz.ntmps97
  go_upto_region 1 with fail
  go_cut [1, 33] (fun s1 s33 wc => s33 = .bool (portBad s p) ∧ Below w.heap.size w wc ∧ wc.heap[w.heap.size]? = some (.cells (sideC s) 71 (0, 0)))
  case first =>
    cases hpv : p <;> cases hav : allP s
    all_goals
      have HAV := Lib.hid hav
      rw [hav] at KA
      clear hav
      go_wp2_with (go_at_call 139; refine (KA.out _).mono ?_; rintro e w1 ⟨rfl, hb1⟩; have HX := Lib.hid hb1; clear hb1)
      all_goals go_meet
      all_goals (case rel => first | exact ⟨by unfold portBad; rw [HAV.out]; simp_all <;> (try intros) <;> omega, HB0.out, HR0.out⟩ | exact ⟨by unfold portBad; rw [HAV.out]; simp_all <;> (try intros) <;> omega, bstep HB0.out HX.out HB0.out.size, row_step HR0 HX.out⟩)
  case rest =>
    obtain ⟨rfl, hbw, hrw⟩ := hcut
    have HB2 := Lib.hid hbw
    have HR2 := Lib.hid hrw
    obtain ⟨a0, a1, a2, a3, a4, a5, b0, b1, b2, b3, b4, b5⟩ := box6 hrw
    clear hbw hrw
    cases hwb : portBad s p with
    | true =>
      have HW := Lib.hid hwb
      clear hwb
      go_wp2
      go_ret
      exact ⟨by rw [sideR_eq, HW.out]; rfl, HB2.out⟩
    | false =>
      have HW := Lib.hid hwb
      clear hwb
      cases hany : s.any with
      | true =>
        have HANY := Lib.hid hany
        rw [hany] at a0
        clear hany
        go_wp2
        all_goals go_ret
        all_goals exact ⟨by rw [sideR_eq, HW.out, HANY.out, HZ.out]; simp_all, HB2.out⟩
      | false =>
        have HANY := Lib.hid hany
        rw [hany] at a0
        clear hany
        cases ht : s.table.isEmpty with
        | true =>
          have ht2 : s.table = [] := by simpa using ht
          have HT := Lib.hid ht2
          clear ht2
          go_wp2_with (go_at_call 68; refine (KI.out _).mono ?_; rintro e w2 ⟨rfl, hb2⟩; have HX := Lib.hid hb2; clear hb2)
          go_ret
          exact ⟨by rw [sideR_eq, HW.out, HANY.out]; simp [HT.out], bstep HB2.out HX.out HB2.out.size⟩
        | false =>
          have ht2 : s.table ≠ [] := by simpa using ht
          have HT := Lib.hid ht2
          clear ht2
          cases hn : nameL s.table
          all_goals
            have HN := Lib.hid hn
            rw [hn] at KN
            clear hn
            go_wp2_with (go_at_call 50; refine (KN.out _).mono ?_; rintro e w2 ⟨rfl, rfl⟩)
            all_goals go_ret
            all_goals exact ⟨by rw [sideR_eq, HW.out, HANY.out, if_pos HT.out, HN.out, HZ.out]; simp_all, HB2.out⟩
end Go.Proofs.YtnmbbnhgoedjgaaGreatDoor.RuR

namespace Go.Proofs.YtnmbbnhgoedjgaaGreatDoor.RuVa
open Go Go.RowKit Go.Proofs.YtnmbbnhgoedjgaaGreatDoor.Ru0 Go.Proofs.YtnmbbnhgoedjgaaGreatDoor.Ru1 Go.Proofs.YtnmbbnhgoedjgaaGreatDoor.St4 Go.Proofs.YtnmbbnhgoedjgaaGreatDoor.Ru3 Go.Proofs.YtnmbbnhgoedjgaaGreatDoor.Ru4 Go.Proofs.YtnmbbnhgoedjgaaGreatDoor.Ru6
set_option linter.unusedVariables false
set_option linter.unusedSimpArgs false
theorem spaced_mid (a m b : List Wd) (hm : m ≠ []) : spaced (a ++ spaced m :: b) = spaced (a ++ (m ++ b)) := by
  cases m with
  | nil => exact absurd rfl hm
  | cons y t => cases a with
    | nil => simp [spaced]
    | cons x a => simp [spaced]
theorem tkS_ne (s : SideM) : tkS s ≠ [] := by unfold tkS; simp
theorem if_ne (n k : Int) (a : List Wd) : (if (n != k) then a else []) = (if n = k then [] else a) := by by_cases h : n = k <;> simp [h]
theorem if_on (l : Wd) (a : List Wd) : (if (!l.isEmpty) then a else []) = (if l = [] then [] else a) := by cases l <;> simp
theorem chunks (r : RuleM) (x0 x1 x2 x3 x4 x5 x6 x7 x8 x9 x10 x11 : List Wd) (h0 : [if r.pass then wPass else wBlock] = x0)
    (h1 : x0 ++ (if r.ret then [wReturn] else []) = x1) (h2 : x1 ++ (if r.quick then [wQuick] else []) = x2) (h3 : x2 ++ (if (!r.on.isEmpty) then [wOn, r.on] else []) = x3)
    (h4 : x3 ++ (if (r.proto != 0) then [wProto, protoW r.proto] else []) = x4) (h5 : x4 ++ [wFrom, spaced (tkS r.frm), wTo, spaced (tkS r.dst)] = x5)
    (h6 : x5 ++ (if (r.mask != 0) then [wFlags, (flagsW r.set.toNat ++ [47]) ++ flagsW r.mask.toNat] else []) = x6) (h7 : x6 ++ (if (r.typ != -1) then [wType, Lib.itoa r.typ] else []) = x7)
    (h8 : x7 ++ (if r.keep then [wKeep] else []) = x8) (h9 : x8 ++ (if r.routeTo.on then [wRoute, r.routeTo.iface, printL r.routeTo.gate] else []) = x9)
    (h10 : x9 ++ (if r.replyTo.on then [wReply, r.replyTo.iface, printL r.replyTo.gate] else []) = x10) (h11 : x10 ++ (if (r.table != 0) then [wTable, Lib.itoa r.table] else []) = x11) : spaced x11 = spaced (tokens r) := by
  have e11 : x11 = x5 ++ tk5 r := by
    rw [← h11, ← h10, ← h9, ← h8, ← h7, ← h6, if_ne, if_ne, if_ne]
    simp only [tk5, tk6, tk7, tk8, tkPin, List.append_assoc, List.cons_append, List.nil_append]
  have e4 : tokens r = x4 ++ tk3 r := by
    rw [← h4, ← h3, ← h2, ← h1, ← h0, if_ne, if_on]
    simp only [tokens, tk1, tk2, List.append_assoc, List.cons_append, List.nil_append]
  rw [e4, e11, ← h5]
  have s1 := spaced_mid (x4 ++ [wFrom]) (tkS r.frm) ([wTo, spaced (tkS r.dst)] ++ tk5 r) (tkS_ne _)
  have s2 := spaced_mid (x4 ++ wFrom :: (tkS r.frm ++ [wTo])) (tkS r.dst) (tk5 r) (tkS_ne _)
  simp only [List.append_assoc, List.cons_append, List.nil_append] at s1 s2 ⊢
  rw [s1, s2]
  rfl
end Go.Proofs.YtnmbbnhgoedjgaaGreatDoor.RuVa

