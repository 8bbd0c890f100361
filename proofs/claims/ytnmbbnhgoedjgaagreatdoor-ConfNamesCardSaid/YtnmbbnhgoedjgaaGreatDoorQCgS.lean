/- conf.unknown. castellanref20.iface, Is, Print. castellanref20.readTable. castellanref20.wrong. conf.Same. -/
import Derived.Test.YtnmbbnhgoedjgaaGreatDoorQCf1
import Derived.Test.YtnmbbnhgoedjgaaGreatDoorQCg8
import Derived.Test.YtnmbbnhgoedjgaaGreatDoorQCgM
import Derived.Test.YtnmbbnhgoedjgaaGreatDoorQCf9
import Derived.Test.YtnmbbnhgoedjgaaGreatDoorQRuVa
import Derived.Test.YtnmbbnhgoedjgaaGreatDoorQAd2
import Derived.Test.YtnmbbnhgoedjgaaGreatDoorQStA
import Derived.Test.YtnmbbnhgoedjgaaGreatDoorQCgR
import Derived.Test.YtnmbbnhgoedjgaaGreatDoorQCg4
import Derived.Test.YtnmbbnhgoedjgaaGreatDoorQEq
import Derived.Deep.DeepCutAuto
namespace Go.Proofs.YtnmbbnhgoedjgaaGreatDoor.Cg9
open Go Go.RowKit Go.Proofs.YtnmbbnhgoedjgaaGreatDoor.Ad1 Go.Proofs.YtnmbbnhgoedjgaaGreatDoor.St2 Go.Proofs.YtnmbbnhgoedjgaaGreatDoor.Ru0 Go.Proofs.YtnmbbnhgoedjgaaGreatDoor.Ru6 Go.Proofs.YtnmbbnhgoedjgaaGreatDoor.RuB Go.Proofs.YtnmbbnhgoedjgaaGreatDoor.RuC Go.Proofs.YtnmbbnhgoedjgaaGreatDoor.RuD Go.Proofs.YtnmbbnhgoedjgaaGreatDoor.RuY Go.Proofs.YtnmbbnhgoedjgaaGreatDoor.Cf0 Go.Proofs.YtnmbbnhgoedjgaaGreatDoor.Cf4 Go.Proofs.YtnmbbnhgoedjgaaGreatDoor.Cf5 Go.Proofs.YtnmbbnhgoedjgaaGreatDoor.Cf6 Go.Proofs.YtnmbbnhgoedjgaaGreatDoor.Cg0 Go.Proofs.YtnmbbnhgoedjgaaGreatDoor.Cg8 Go.Proofs.YtnmbbnhgoedjgaaGreatDoor.Cf8
set_option linter.unusedVariables false
set_option linter.unusedSimpArgs false
def l1 (r : RuleM) : List Wd := [r.on, r.routeTo.iface, r.replyTo.iface]
def l2 (r : RuleM) : List Wd := [r.frm.table, r.dst.table]
def bad1 (c : ConfM) (n : Wd) : Bool := !n.isEmpty && !hasIface c n
def bad2 (c : ConfM) (n : Wd) : Bool := !n.isEmpty && !hasTable c n
theorem wrong_eq (c : ConfM) (r : RuleM) : wrongOf c r = ((l1 r).find? (bad1 c)).orElse fun _ => (l2 r).find? (bad2 c) := rfl
/-- Two boxes. -/
structure PrU (W : World) (cs rs : Array Value) (w : World) : Prop where
  box : w.heap[W.heap.size]? = some (.cells cs 27 (0, 0))
  rul : w.heap[W.heap.size + 1]? = some (.cells rs 75 (0, 0))
  low : Below W.heap.size W w
  lt : W.heap.size + 1 < w.heap.size
section
variable {W : World} {cs rs : Array Value}
theorem PrU.below {w w' : World} (h : PrU W cs rs w) (hb : Below w.heap.size w w') : PrU W cs rs w' :=
  ⟨(hb.block _ (by have := h.lt; omega)).trans h.box, (hb.block _ h.lt).trans h.rul, bstep h.low hb h.low.size, Nat.lt_of_lt_of_le h.lt hb.size⟩
theorem PrU.new (W : World) (cs rs : Array Value) : PrU W cs rs ((W.alloc (.cells cs 27)).alloc (.cells rs 75)) :=
  ⟨heap_alloc2_old W _ _, heap_alloc2_new W _ _, bnew2 W _ _, by simp⟩
end
theorem idx_neg {α : Type} (p : α → Bool) (l : List α) : decide (idxF p l < 0) = !l.any p := by
  rw [← idx_any, ← decide_not, decide_eq_decide]
  omega
theorem named_has (ts : List (NamedM × Value)) (c : ConfM) (h : ts.map (·.1) = c.tables) (n : Wd) : (ts.any fun t => t.1.name == n) = hasTable c n := by
  unfold hasTable
  rw [← h, List.any_map]
  rfl
/-- A row of strings, cell by cell. -/
theorem row_strs (w : World) (L : List Wd) (T : TypeId) (g : Nat) (hg : g = w.heap.size) (j : Nat) (x : Wd) (hx : L[j]? = some x) : (w.alloc (.cells (L.map fun x => Value.string ⟨x.toArray⟩).toArray T)).cell? ⟨g, j, none⟩ = some (.string ⟨x.toArray⟩) := by
  subst hg
  rw [cell_of_row _ _ _ _ _ _ (heap_alloc_new w _)]
  simp [hx]
theorem strs_below {w w' : World} {L : List Wd} {g : Nat} (h : ∀ (j : Nat) (x : Wd), L[j]? = some x → w.cell? ⟨g, j, none⟩ = some (.string ⟨x.toArray⟩)) (hb : Below w.heap.size w w') : ∀ (j : Nat) (x : Wd), L[j]? = some x → w'.cell? ⟨g, j, none⟩ = some (.string ⟨x.toArray⟩) := fun j x hx => (hb.cell (World.block_lt_of_cell? w _ (h j x hx))).trans (h j x hx)
set_option maxRecDepth 20000 in
set_option maxHeartbeats 4000000 in
theorem unknown_any (c : ConfM) (v0 v1 v2 v3 : Value) (ts : List (NamedM × Value)) (r : RuleM) (W : World) (h : ConfIn W v0 v1 v2 v3 ts c) (hf : FitC c) :
    Calls Tryz.prog 36 #[.agg (confC v0 v1 v2 v3 c), .agg (ruleC r)] W fun e w' => e = .returned (foundV (wrongOf c r)) ∧ Below W.heap.size W w' := by
  have HN := Lib.hid (show (Tryz.prog.info? 27).map (·.size) = some (confC v0 v1 v2 v3 c).size by kernel_rfl)
  have KI := Lib.hid (fun (n : Wd) W' (hb : Below W.heap.size W W') => confIface_any ifL (·.name) (fun x => ⟨_, _, _, _, rfl⟩) c.ifaces (by have := hf.ni; omega) v0 v1 v2 v3 (.int .i64 c.flows) (.int .i64 c.errors) n W' (h.below hb).ifaces)
  have KI := Lib.hid (show ∀ (n : Wd) W', Below W.heap.size W W' → Calls Tryz.prog 22 #[.agg (confC v0 v1 v2 v3 c), .string ⟨n.toArray⟩] W' _ from KI.out)
  have KT := Lib.hid (fun (n : Wd) W' (hb : Below W.heap.size W W') (nb : Nat) (hc : W'.cell? ⟨nb, 0, none⟩ = some (.string ⟨n.toArray⟩)) => has_named nmL nmL_len (fun t => t.1.name == n) ts (by have := hf.nt; have := h.tlen; omega) v2 W' (h.below hb).tables (.pointer (some ⟨nb, 0, none⟩)) (fun t _ W2 hb2 => named1_any t.1.name n t.2 nb W2 ((hb2.cell (World.block_lt_of_cell? W' _ hc)).trans hc)))
  have HTb := Lib.hid (named_has ts c h.tab)
  have HI : Hid (∀ n, decide (idxF (fun x => x.name == n) c.ifaces < 0) = !hasIface c n) := fun n => idx_neg _ _
  have d2 : (confC v0 v1 v2 v3 c)[2]? = some v2 := rfl
  have rc3 : (ruleC r)[3]? = some (.string ⟨r.on.toArray⟩) := rfl
  have rc6 : (ruleC r)[6]? = some (.string ⟨r.frm.table.toArray⟩) := rfl
  have rc12 : (ruleC r)[12]? = some (.string ⟨r.dst.table.toArray⟩) := rfl
  have rc22 : (ruleC r)[22]? = some (.string ⟨r.routeTo.iface.toArray⟩) := rfl
  have rc25 : (ruleC r)[25]? = some (.string ⟨r.replyTo.iface.toArray⟩) := rfl
  have HP := Lib.hid (PrU.new W (confC v0 v1 v2 v3 c) (ruleC r))
  generalize confC v0 v1 v2 v3 c = cs at *
  generalize ruleC r = rs at *
  have q3 := (cell_of_row _ _ 3 _ _ _ HP.out.rul).trans rc3
  have q22 := (cell_of_row _ _ 22 _ _ _ HP.out.rul).trans rc22
  have q25 := (cell_of_row _ _ 25 _ _ _ HP.out.rul).trans rc25
  have HQ : Hid (_ ∧ _ ∧ _) := ⟨d2, rc6, rc12⟩
  clear d2 rc3 rc6 rc12 rc22 rc25 h hf
  go_enter Tryz.func36, Tryz.ntmps36
  go_upto_region 2 with fail
  have HS : Hid (∀ (j : Nat) (x : Wd), (l1 r)[j]? = some x → (((W.alloc (.cells cs 27)).alloc (.cells rs 75)).alloc (.cells #[.string ⟨r.on.toArray⟩, .string ⟨r.routeTo.iface.toArray⟩, .string ⟨r.replyTo.iface.toArray⟩] 9)).cell? ⟨W.heap.size + 2, j, none⟩ = some (.string ⟨x.toArray⟩)) := fun j x hx => row_strs _ (l1 r) _ _ (by simp) j x hx
  have HP := Lib.hid (HP.out.below (bnew _ (.cells #[.string ⟨r.on.toArray⟩, .string ⟨r.routeTo.iface.toArray⟩, .string ⟨r.replyTo.iface.toArray⟩] 9)))
  clear q3 q22 q25
  generalize ((W.alloc (.cells cs 27)).alloc (.cells rs 75)).alloc (.cells #[.string ⟨r.on.toArray⟩, .string ⟨r.routeTo.iface.toArray⟩, .string ⟨r.replyTo.iface.toArray⟩] 9) = W2 at *
  go_loopw [20] (fun s20 wr => ∃ k : Nat, k ≤ 3 ∧ s20 = .int .i64 k ∧ (∀ j y, j < k → (l1 r)[j]? = some y → bad1 c y = false) ∧ PrU W cs rs wr ∧ (∀ (j : Nat) (x : Wd), (l1 r)[j]? = some x → wr.cell? ⟨W.heap.size + 2, j, none⟩ = some (.string ⟨x.toArray⟩))) (fun s20 _ => 3 - (intOf s20).toNat)
  case atStart => exact ⟨0, by omega, rfl, fun j y hj => absurd hj (by omega), HP.out, HS.out⟩
  case round =>
    obtain ⟨k, hkl, rfl, hno, hp, hs⟩ := hrel
    have HG := Lib.hid hno
    have HP := Lib.hid hp
    have HS := Lib.hid hs
    clear hno
    by_cases hlt : k < 3
    · have hlt' : (k : Int) < 3 := by omega
      obtain ⟨x, hx⟩ : ∃ x, (l1 r)[k]? = some x := ⟨_, List.getElem?_eq_getElem (by simpa [l1] using hlt)⟩
      have c0 := hs k x hx
      clear hs hp
      have HM : Hid (bad1 c x = false → ∀ j y, j < k + 1 → (l1 r)[j]? = some y → bad1 c y = false) := fun hb j y hj hy => by
        by_cases e : j = k
        · subst e; rw [hx] at hy; cases hy; exact hb
        · exact HG.out j y (by omega) hy
      have HH : Hid (bad1 c x = true → (l1 r).find? (bad1 c) = some x) := fun hb => find_hit _ _ k x hx hb HG.out
      clear hx
      cases h0 : x.isEmpty with
      | true =>
        have HM := Lib.hid (HM.out (by simp [bad1, h0]))
        go_wp2_with fail
        exact ⟨⟨k + 1, by omega, by go_num, HM.out, HP.out, HS.out⟩, by simp only [intOf]; go_num⟩
      | false =>
        have KX := Lib.hid (KI.out x)
        have hi := HI.out x
        have eb : bad1 c x = !hasIface c x := by simp [bad1, h0]
        generalize idxF (fun y => y.name == x) c.ifaces = i at KX hi
        cases hh : hasIface c x with
        | true =>
          rw [hh] at hi eb
          have hi' : ¬ i < 0 := by simpa using hi
          have HM := Lib.hid (HM.out eb)
          clear hi eb hh HH
          go_wp2_with (first
            | ((with_reducible refine Mem.load_row W.heap.size ?_ HP.out.box Tryz.underlying27 HN.out ?_ ?_); rfl; rfl)
            | (go_at_call 22; (with_reducible refine (KX.out _ HP.out.low).mono ?_); rintro e w1 ⟨rfl, hb1⟩; have HS := Lib.hid (strs_below HS.out hb1); have HP := Lib.hid (HP.out.below hb1); clear hb1))
          exact ⟨⟨k + 1, by omega, by go_num, HM.out, HP.out, HS.out⟩, by simp only [intOf]; go_num⟩
        | false =>
          rw [hh] at hi eb
          have hi' : i < 0 := by simpa using hi
          have HV := Lib.hid (show foundV (wrongOf c r) = .tuple #[.string ⟨x.toArray⟩, .bool true] by rw [wrong_eq, HH.out eb]; rfl)
          clear hi eb hh HM HH
          go_wp2_with (first
            | ((with_reducible refine Mem.load_row W.heap.size ?_ HP.out.box Tryz.underlying27 HN.out ?_ ?_); rfl; rfl)
            | (go_at_call 22; (with_reducible refine (KX.out _ HP.out.low).mono ?_); rintro e w1 ⟨rfl, hb1⟩; have HP := Lib.hid (HP.out.below hb1); clear hb1))
          go_ret2
          exact ⟨by rw [HV.out]; rfl, HP.out.low⟩
    · have hge : ¬ (k : Int) < 3 := by omega
      have HZ := Lib.hid (find_miss (bad1 c) (l1 r) (by obtain rfl : k = 3 := by omega
                                                        exact HG.out))
      clear HS hs HG
      have q6 := (cell_of_row _ _ 6 _ _ _ HP.out.rul).trans HQ.out.2.1
      have q12 := (cell_of_row _ _ 12 _ _ _ HP.out.rul).trans HQ.out.2.2
      go_upto_region 8 with fail
      have HS : Hid (∀ (j : Nat) (x : Wd), (l2 r)[j]? = some x → (wr.alloc (.cells #[.string ⟨r.frm.table.toArray⟩, .string ⟨r.dst.table.toArray⟩] 9)).cell? ⟨wr.heap.size, j, none⟩ = some (.string ⟨x.toArray⟩)) := fun j x hx => row_strs _ (l2 r) _ _ rfl j x hx
      have HP := Lib.hid (HP.out.below (bnew _ (.cells #[.string ⟨r.frm.table.toArray⟩, .string ⟨r.dst.table.toArray⟩] 9)))
      clear q6 q12 hp
      generalize wr.alloc (.cells #[.string ⟨r.frm.table.toArray⟩, .string ⟨r.dst.table.toArray⟩] 9) = W3 at *
      generalize wr.heap.size = sb at *
      go_loopw [42] (fun s42 wr => ∃ k : Nat, k ≤ 2 ∧ s42 = .int .i64 k ∧ (∀ j y, j < k → (l2 r)[j]? = some y → bad2 c y = false) ∧ PrU W cs rs wr ∧ (∀ (j : Nat) (x : Wd), (l2 r)[j]? = some x → wr.cell? ⟨sb, j, none⟩ = some (.string ⟨x.toArray⟩))) (fun s42 _ => 2 - (intOf s42).toNat)
      case atStart => exact ⟨0, by omega, rfl, fun j y hj => absurd hj (by omega), HP.out, HS.out⟩
      case round =>
        obtain ⟨k, hkl, rfl, hno, hp, hs⟩ := hrel
        have HG := Lib.hid hno
        clear hno
        by_cases hlt : k < 2
        · have hlt' : (k : Int) < 2 := by omega
          obtain ⟨x, hx⟩ : ∃ x, (l2 r)[k]? = some x := ⟨_, List.getElem?_eq_getElem (by simpa [l2] using hlt)⟩
          have c0 := hs k x hx
          have HM : Hid (bad2 c x = false → ∀ j y, j < k + 1 → (l2 r)[j]? = some y → bad2 c y = false) := fun hb j y hj hy => by
            by_cases e : j = k
            · subst e; rw [hx] at hy; cases hy; exact hb
            · exact HG.out j y (by omega) hy
          have HH : Hid (bad2 c x = true → (l2 r).find? (bad2 c) = some x) := fun hb => find_hit _ _ k x hx hb HG.out
          have hbV := bnew wr (.cells #[.string ⟨x.toArray⟩] 9)
          have hcV : (wr.alloc (.cells #[.string ⟨x.toArray⟩] 9)).cell? ⟨wr.heap.size, 0, none⟩ = some (.string ⟨x.toArray⟩) := (cell_of_row _ _ 0 _ _ _ (heap_alloc_new wr _)).trans rfl
          have HP := Lib.hid (hp.below hbV)
          have HS := Lib.hid (strs_below hs hbV)
          have q2 := (cell_of_row _ _ 2 _ _ _ HP.out.box).trans HQ.out.1
          clear hx hs hbV
          cases h0 : x.isEmpty with
          | true =>
            have HM := Lib.hid (HM.out (by simp [bad2, h0]))
            go_wp2_with fail
            exact ⟨⟨k + 1, by omega, by go_num, HM.out, HP.out, HS.out⟩, by simp only [intOf]; go_num⟩
          | false =>
            have KX := Lib.hid (KT.out x _ HP.out.low wr.heap.size hcV)
            rw [HTb.out x] at KX
            have eb : bad2 c x = !hasTable c x := by simp [bad2, h0]
            have HcV := Lib.hid hcV
            cases hh : hasTable c x with
            | true =>
              rw [hh] at KX eb
              have HM := Lib.hid (HM.out eb)
              clear eb hh HH
              go_wp2_with (go_at_call 42; (with_reducible refine KX.out.mono ?_); rintro e w1 ⟨rfl, hb1⟩; have HS := Lib.hid (strs_below HS.out hb1); have HP := Lib.hid (HP.out.below hb1); clear hb1)
              go_roundw
              case rel => exact ⟨k + 1, by omega, by go_num, HM.out, HP.out, HS.out⟩
              case measure => simp only [intOf]; go_num
            | false =>
              rw [hh] at KX eb
              have HV := Lib.hid (show foundV (wrongOf c r) = .tuple #[.string ⟨x.toArray⟩, .bool true] by rw [wrong_eq, HZ.out, HH.out eb]; rfl)
              clear eb hh HH HM
              go_wp2_with (go_at_call 42; (with_reducible refine KX.out.mono ?_); rintro e w1 ⟨rfl, hb1⟩; have HP := Lib.hid (HP.out.below hb1); have cx := (hb1.cell (World.block_lt_of_cell? _ _ HcV.out)).trans HcV.out; clear hb1)
              go_ret2
              exact ⟨by rw [HV.out]; rfl, HP.out.low⟩
        · obtain rfl : k = 2 := by omega
          have HV := Lib.hid (show foundV (wrongOf c r) = .tuple #[.string ⟨#[]⟩, .bool false] by rw [wrong_eq, HZ.out, find_miss (bad2 c) (l2 r) HG.out]; rfl)
          go_wp2_with fail
          go_ret2
          exact ⟨by rw [HV.out]; rfl, hp.low⟩
end Go.Proofs.YtnmbbnhgoedjgaaGreatDoor.Cg9

namespace Go.Proofs.YtnmbbnhgoedjgaaGreatDoor.Cg6
open Go Go.RowKit Go.Proofs.YtnmbbnhgoedjgaaGreatDoor.Ad0 Go.Proofs.YtnmbbnhgoedjgaaGreatDoor.Ad1 Go.Proofs.YtnmbbnhgoedjgaaGreatDoor.Ru0 Go.Proofs.YtnmbbnhgoedjgaaGreatDoor.Ru6 Go.Proofs.YtnmbbnhgoedjgaaGreatDoor.Ad2 Go.Proofs.YtnmbbnhgoedjgaaGreatDoor.RuQ Go.Proofs.YtnmbbnhgoedjgaaGreatDoor.Cf0 Go.Proofs.YtnmbbnhgoedjgaaGreatDoor.Cf4 Go.Proofs.YtnmbbnhgoedjgaaGreatDoor.Cg0
set_option linter.unusedVariables false
set_option linter.unusedSimpArgs false
set_option maxRecDepth 20000 in
set_option maxHeartbeats 4000000 in
theorem riface_any (x : IfaceM) (hx : x.name.length ≤ 9223372036854775807) (hp : x.addr.ok) (w : World) :
    Calls Tryz.prog 49 #[.agg (ifL x).toArray] w fun e w' => e = .returned (.bool (isI x)) ∧ Below w.heap.size w w' := by
  obtain ⟨nm, ⟨a, n⟩, mtu, rpf⟩ := x
  dsimp only at hx hp
  have KN := Lib.hid (fun W' => rname_any ⟨nm.toArray⟩ (by simpa [ByteArray.size] using hx) W')
  have KC := Lib.hid (fun W' => rcast_any a hp W')
  have HB := Lib.hid (bnew2 w (.cells #[.string ⟨nm.toArray⟩, .int .u32 (a : Nat), .int .i64 n, .int .i64 mtu, .int .i64 rpf] 45) (.cells #[.int .u32 (a : Nat), .int .i64 n] 43))
  unfold isI
  show Calls Tryz.prog 49 #[.agg #[.string ⟨nm.toArray⟩, .int .u32 (a : Nat), .int .i64 n, .int .i64 mtu, .int .i64 rpf]] w _
  dsimp only
  have HV : Hid (∀ V : World, Below w.heap.size w ((V.alloc (.cells #[.int .u32 0, .int .i64 0] 43))) → True) := fun _ _ => trivial
  have hn : (⟨nm.toArray⟩ : ByteArray).data.toList = nm := rfl
  rw [hn] at KN
  clear hn HV HB
  generalize castF a = cb at KC ⊢
  have ha : (16777216 ≤ a) = ¬ ((a : Int) / 16777216 = 0) := by
    apply propext; constructor <;> intro h <;> omega
  rw [decide_eq_decide.2 (Iff.of_eq ha)]
  cases q0 : nameL nm with
  | false =>
    rw [q0] at KN
    go_enter Tryz.func49, Tryz.ntmps49
    go_wp2_with (first
      | (go_at_call 50; (with_reducible refine (KN.out _).mono ?_); rintro e v1 ⟨rfl, rfl⟩)
      | (go_at_call 96; (with_reducible refine (KC.out _).mono ?_); rintro e v2 ⟨rfl, rfl⟩))
    go_ret
    exact ⟨rfl, bnew2 _ _ _⟩
  | true =>
  rw [q0] at KN
  by_cases q1 : 1 ≤ n
  rotate_left
  · have qq1 := q1
    rw [decide_eq_false q1]
    go_enter Tryz.func49, Tryz.ntmps49
    go_wp2_with (first
      | (go_at_call 50; (with_reducible refine (KN.out _).mono ?_); rintro e v1 ⟨rfl, rfl⟩)
      | (go_at_call 96; (with_reducible refine (KC.out _).mono ?_); rintro e v2 ⟨rfl, rfl⟩))
    go_ret
    exact ⟨rfl, bnew2 _ _ _⟩
  by_cases q2 : n ≤ 32
  rotate_left
  · have qq2 := q2
    rw [decide_eq_true q1, decide_eq_false q2]
    go_enter Tryz.func49, Tryz.ntmps49
    go_wp2_with (first
      | (go_at_call 50; (with_reducible refine (KN.out _).mono ?_); rintro e v1 ⟨rfl, rfl⟩)
      | (go_at_call 96; (with_reducible refine (KC.out _).mono ?_); rintro e v2 ⟨rfl, rfl⟩))
    go_ret
    exact ⟨rfl, bnew2 _ _ _⟩
  by_cases q3 : ¬ ((a : Int) / 16777216 = 0)
  rotate_left
  · have qq3 : ((a : Int) / 16777216 != 0) = false := by simpa using q3
    rw [decide_eq_true q1, decide_eq_true q2, decide_eq_false q3]
    go_enter Tryz.func49, Tryz.ntmps49
    go_wp2_with (first
      | (go_at_call 50; (with_reducible refine (KN.out _).mono ?_); rintro e v1 ⟨rfl, rfl⟩)
      | (go_at_call 96; (with_reducible refine (KC.out _).mono ?_); rintro e v2 ⟨rfl, rfl⟩))
    go_ret
    exact ⟨rfl, bnew2 _ _ _⟩
  have qq3 : ((a : Int) / 16777216 != 0) = true := by simpa using q3
  cases cb with
  | true =>
    rw [decide_eq_true q1, decide_eq_true q2, decide_eq_true q3]
    go_enter Tryz.func49, Tryz.ntmps49
    go_wp2_with (first
      | (go_at_call 50; (with_reducible refine (KN.out _).mono ?_); rintro e v1 ⟨rfl, rfl⟩)
      | (go_at_call 96; (with_reducible refine (KC.out _).mono ?_); rintro e v2 ⟨rfl, rfl⟩))
    go_ret
    exact ⟨rfl, bnew2 _ _ _⟩
  | false =>
  by_cases q5 : 68 ≤ mtu
  rotate_left
  · have qq5 := q5
    rw [decide_eq_true q1, decide_eq_true q2, decide_eq_true q3, decide_eq_false q5]
    go_enter Tryz.func49, Tryz.ntmps49
    go_wp2_with (first
      | (go_at_call 50; (with_reducible refine (KN.out _).mono ?_); rintro e v1 ⟨rfl, rfl⟩)
      | (go_at_call 96; (with_reducible refine (KC.out _).mono ?_); rintro e v2 ⟨rfl, rfl⟩))
    go_ret
    exact ⟨rfl, bnew2 _ _ _⟩
  by_cases q6 : mtu ≤ 65535
  rotate_left
  · have qq6 := q6
    rw [decide_eq_true q1, decide_eq_true q2, decide_eq_true q3, decide_eq_true q5, decide_eq_false q6]
    go_enter Tryz.func49, Tryz.ntmps49
    go_wp2_with (first
      | (go_at_call 50; (with_reducible refine (KN.out _).mono ?_); rintro e v1 ⟨rfl, rfl⟩)
      | (go_at_call 96; (with_reducible refine (KC.out _).mono ?_); rintro e v2 ⟨rfl, rfl⟩))
    go_ret
    exact ⟨rfl, bnew2 _ _ _⟩
  by_cases q7 : 0 ≤ rpf
  rotate_left
  · have qq7 := q7
    rw [decide_eq_true q1, decide_eq_true q2, decide_eq_true q3, decide_eq_true q5, decide_eq_true q6, decide_eq_false q7]
    go_enter Tryz.func49, Tryz.ntmps49
    go_wp2_with (first
      | (go_at_call 50; (with_reducible refine (KN.out _).mono ?_); rintro e v1 ⟨rfl, rfl⟩)
      | (go_at_call 96; (with_reducible refine (KC.out _).mono ?_); rintro e v2 ⟨rfl, rfl⟩))
    go_ret
    exact ⟨rfl, bnew2 _ _ _⟩
  rw [decide_eq_true q1, decide_eq_true q2, decide_eq_true q3, decide_eq_true q5, decide_eq_true q6, decide_eq_true q7]
  go_enter Tryz.func49, Tryz.ntmps49
  go_wp2_with (first
    | (go_at_call 50; (with_reducible refine (KN.out _).mono ?_); rintro e v1 ⟨rfl, rfl⟩)
    | (go_at_call 96; (with_reducible refine (KC.out _).mono ?_); rintro e v2 ⟨rfl, rfl⟩))
  go_ret
  exact ⟨rfl, bnew2 _ _ _⟩
end Go.Proofs.YtnmbbnhgoedjgaaGreatDoor.Cg6

namespace Go.Proofs.YtnmbbnhgoedjgaaGreatDoor.Ch5
open Go Go.RowKit Go.Proofs.YtnmbbnhgoedjgaaGreatDoor.Ad1 Go.Proofs.YtnmbbnhgoedjgaaGreatDoor.St2 Go.Proofs.YtnmbbnhgoedjgaaGreatDoor.Ru0 Go.Proofs.YtnmbbnhgoedjgaaGreatDoor.Ru6 Go.Proofs.YtnmbbnhgoedjgaaGreatDoor.RuB Go.Proofs.YtnmbbnhgoedjgaaGreatDoor.RuC Go.Proofs.YtnmbbnhgoedjgaaGreatDoor.RuY Go.Proofs.YtnmbbnhgoedjgaaGreatDoor.Cf0 Go.Proofs.YtnmbbnhgoedjgaaGreatDoor.Cf4 Go.Proofs.YtnmbbnhgoedjgaaGreatDoor.Cf6 Go.Proofs.YtnmbbnhgoedjgaaGreatDoor.Cg0
set_option linter.unusedVariables false
set_option linter.unusedSimpArgs false
def TableGot (W : World) (ws : List Wd) (e : Ending) (w' : World) : Prop := match tableOf ws with
  | some t => ∃ u, e = .returned (.tuple #[.agg #[.string ⟨t.name.toArray⟩, u], .bool true]) ∧ w'.ownsRow W.heap.size 43 2 u t.l.length (t.l.flatMap pfxL) ∧ Below W.heap.size W w'
  | none => e = .returned (.tuple #[.agg #[.string ⟨#[]⟩, .slice none 0 0], .bool false]) ∧ Below W.heap.size W w'
theorem got_none {W w' : World} {ws : List Wd} {e : Ending} (h : tableOf ws = none) (he : e = .returned (.tuple #[.agg #[.string ⟨#[]⟩, .slice none 0 0], .bool false])) (hb : Below W.heap.size W w') : TableGot W ws e w' := by
  unfold TableGot
  rw [h]
  exact ⟨he, hb⟩
/-- The result's box and the table's. -/
structure PrB (W : World) (nm : Wd) (u : Value) (w : World) : Prop where
  z : w.heap[W.heap.size]? = some (.cells #[.string ⟨#[]⟩, .slice none 0 0] 66 (0, 0))
  t : w.heap[W.heap.size + 1]? = some (.cells #[.string ⟨nm.toArray⟩, u] 66 (0, 0))
  low : Below W.heap.size W w
  lt : W.heap.size + 2 ≤ w.heap.size
theorem PrB.below {W w w' : World} {nm : Wd} {u : Value} (h : PrB W nm u w) (hb : Below w.heap.size w w') : PrB W nm u w' :=
  ⟨(hb.block _ (by have := h.lt; omega)).trans h.z, (hb.block _ (by have := h.lt; omega)).trans h.t, bstep h.low hb h.low.size, Nat.le_trans h.lt hb.size⟩
theorem PrB.put {W w : World} {nm : Wd} {u v : Value} (h : PrB W nm u w) : PrB W nm v (w.setCell ⟨W.heap.size + 1, 1, none⟩ v) :=
  ⟨(Below.heap_setCell w ⟨W.heap.size + 1, 1, none⟩ v _ (by simp)).trans h.z, Mem.set_row (k := 1) h.t, h.low.setCell (p := ⟨W.heap.size + 1, 1, none⟩) (by simp) v, by simpa using h.lt⟩
end Go.Proofs.YtnmbbnhgoedjgaaGreatDoor.Ch5

namespace Go.Proofs.YtnmbbnhgoedjgaaGreatDoor.CgW
open Go Go.RowKit Go.Proofs.YtnmbbnhgoedjgaaGreatDoor.Ad1 Go.Proofs.YtnmbbnhgoedjgaaGreatDoor.St2 Go.Proofs.YtnmbbnhgoedjgaaGreatDoor.Ru0 Go.Proofs.YtnmbbnhgoedjgaaGreatDoor.Ru6 Go.Proofs.YtnmbbnhgoedjgaaGreatDoor.RuB Go.Proofs.YtnmbbnhgoedjgaaGreatDoor.RuC Go.Proofs.YtnmbbnhgoedjgaaGreatDoor.RuD Go.Proofs.YtnmbbnhgoedjgaaGreatDoor.RuY Go.Proofs.YtnmbbnhgoedjgaaGreatDoor.Cf0 Go.Proofs.YtnmbbnhgoedjgaaGreatDoor.Cf4 Go.Proofs.YtnmbbnhgoedjgaaGreatDoor.Cf5 Go.Proofs.YtnmbbnhgoedjgaaGreatDoor.Cg0 Go.Proofs.YtnmbbnhgoedjgaaGreatDoor.Cg8 Go.Proofs.YtnmbbnhgoedjgaaGreatDoor.Cg9 Go.Proofs.YtnmbbnhgoedjgaaGreatDoor.CgQ Go.Proofs.YtnmbbnhgoedjgaaGreatDoor.CgR Go.Proofs.YtnmbbnhgoedjgaaGreatDoor.Cf9
set_option linter.unusedVariables false
set_option linter.unusedSimpArgs false
/-- Two boxes and a row of names. -/
structure PrS (W : World) (cs rs : Array Value) (L : List Wd) (sb : Nat) (w : World) : Prop where
  pr : PrU W cs rs w
  strs : ∀ (j : Nat) (x : Wd), L[j]? = some x → w.cell? ⟨sb, j, none⟩ = some (.string ⟨x.toArray⟩)
theorem PrS.below {W : World} {cs rs : Array Value} {L : List Wd} {sb : Nat} {w w' : World} (h : PrS W cs rs L sb w) (hb : Below w.heap.size w w') : PrS W cs rs L sb w' := ⟨h.pr.below hb, strs_below h.strs hb⟩
set_option maxRecDepth 20000 in
set_option maxHeartbeats 4000000 in
theorem wrong_any (c : ConfM) (v0 v1 v2 v3 : Value) (ts : List (NamedM × Value)) (r : RuleM) (W : World) (h : ConfIn W v0 v1 v2 v3 ts c) (hf : FitC c) :
    Calls Tryz.prog 33 #[.agg (confC v0 v1 v2 v3 c), .agg (ruleC r)] W fun e w' => e = .returned (.string ⟨((wrongOf c r).getD []).toArray⟩) ∧ Below W.heap.size W w' := by
  have HN := Lib.hid (show (Tryz.prog.info? 27).map (·.size) = some (confC v0 v1 v2 v3 c).size by kernel_rfl)
  have KI := Lib.hid (fun (n : Wd) W' (hb : Below W.heap.size W W') => refIface_any ifL (·.name) (fun x => ⟨_, _, _, _, rfl⟩) c.ifaces (by have := hf.ni; omega) v0 v1 v2 v3 (.int .i64 c.flows) (.int .i64 c.errors) n W' (h.below hb).ifaces)
  have KI := Lib.hid (show ∀ (n : Wd) W', Below W.heap.size W W' → Calls Tryz.prog 23 #[.agg (confC v0 v1 v2 v3 c), .string ⟨n.toArray⟩] W' _ from KI.out)
  have KT := Lib.hid (fun (n : Wd) W' (hb : Below W.heap.size W W') => refTable_any nmL (·.1.name) (fun x => ⟨_, rfl⟩) ts (by have := hf.nt; have := h.tlen; omega) v0 v1 v2 v3 (.int .i64 c.flows) (.int .i64 c.errors) n W' (h.below hb).tables)
  have KT := Lib.hid (show ∀ (n : Wd) W', Below W.heap.size W W' → Calls Tryz.prog 71 #[.agg (confC v0 v1 v2 v3 c), .string ⟨n.toArray⟩] W' _ from KT.out)
  have HTb := Lib.hid (named_has ts c h.tab)
  have HI : Hid (∀ n, decide (idxF (fun x => x.name == n) c.ifaces < 0) = !hasIface c n) := fun n => idx_neg _ _
  have rc3 : (ruleC r)[3]? = some (.string ⟨r.on.toArray⟩) := rfl
  have rc6 : (ruleC r)[6]? = some (.string ⟨r.frm.table.toArray⟩) := rfl
  have rc12 : (ruleC r)[12]? = some (.string ⟨r.dst.table.toArray⟩) := rfl
  have rc22 : (ruleC r)[22]? = some (.string ⟨r.routeTo.iface.toArray⟩) := rfl
  have rc25 : (ruleC r)[25]? = some (.string ⟨r.replyTo.iface.toArray⟩) := rfl
  have HP := Lib.hid (PrU.new W (confC v0 v1 v2 v3 c) (ruleC r))
  generalize confC v0 v1 v2 v3 c = cs at *
  generalize ruleC r = rs at *
  have q3 := (cell_of_row _ _ 3 _ _ _ HP.out.rul).trans rc3
  have q22 := (cell_of_row _ _ 22 _ _ _ HP.out.rul).trans rc22
  have q25 := (cell_of_row _ _ 25 _ _ _ HP.out.rul).trans rc25
  have HQ : Hid (_ ∧ _) := ⟨rc6, rc12⟩
  clear rc3 rc6 rc12 rc22 rc25 h hf
  go_enter Tryz.func33, Tryz.ntmps33
  go_upto_region 2 with fail
  have HS : Hid (PrS W cs rs (l1 r) (W.heap.size + 1 + 1) (((W.alloc (.cells cs 27)).alloc (.cells rs 75)).alloc (.cells #[.string ⟨r.on.toArray⟩, .string ⟨r.routeTo.iface.toArray⟩, .string ⟨r.replyTo.iface.toArray⟩] 9))) := ⟨HP.out.below (bnew _ _), fun j x hx => row_strs _ (l1 r) _ _ (by simp) j x hx⟩
  clear q3 q22 q25 HP
  generalize ((W.alloc (.cells cs 27)).alloc (.cells rs 75)).alloc (.cells #[.string ⟨r.on.toArray⟩, .string ⟨r.routeTo.iface.toArray⟩, .string ⟨r.replyTo.iface.toArray⟩] 9) = W2 at *
  go_wp2_with fail
  go_loopw [6] (fun s6 wr => ∃ k : Nat, k ≤ 3 ∧ s6 = .int .i64 k ∧ (∀ j y, j < k → (l1 r)[j]? = some y → bad1 c y = false) ∧ PrS W cs rs (l1 r) (W.heap.size + 1 + 1) wr) (fun s6 _ => 3 - (intOf s6).toNat)
  case atStart => exact ⟨0, by omega, rfl, fun j y hj => absurd hj (by omega), HS.out⟩
  case round =>
    obtain ⟨k, hkl, rfl, hno, hs⟩ := hrel
    have HG := Lib.hid hno
    have HS := Lib.hid hs
    clear hno
    by_cases hlt : k < 3
    · have hlt' : (k : Int) < 3 := by omega
      obtain ⟨x, hx⟩ : ∃ x, (l1 r)[k]? = some x := ⟨_, List.getElem?_eq_getElem (by simpa [l1] using hlt)⟩
      have Hx : Hid (∀ p : In (PrS W cs rs (l1 r) (W.heap.size + 1 + 1)), p.val.cell? ⟨(W.heap.size + 1 + 1), k, none⟩ = some (.string ⟨x.toArray⟩)) := fun p => p.property.strs k x hx
      have Hy := Lib.hid hx
      have HM : Hid (bad1 c x = false → ∀ j y, j < k + 1 → (l1 r)[j]? = some y → bad1 c y = false) := fun hb j y hj hy => by
        by_cases e : j = k
        · subst e; rw [hx] at hy; cases hy; exact hb
        · exact HG.out j y (by omega) hy
      have HH : Hid (bad1 c x = true → (l1 r).find? (bad1 c) = some x) := fun hb => find_hit _ _ k x hx hb HG.out
      clear hx hs
      cases h0 : x.isEmpty with
      | true =>
        have HM := Lib.hid (HM.out (by simp [bad1, h0]))
        go_wp2_with fail
        refine region_in (PrS W cs rs (l1 r) (W.heap.size + 1 + 1)) (by kernel_rfl) (by kernel_rfl) (HS.out.below (Below.refl _ _).drew) ?_
        repeat (first
          | go_big_quiet_skip
          | (go_big_quiet_want; first
            | ((with_reducible refine load_one (W.heap.size + 1 + 1) k ?_ Hx.out Tryz.isAgg9 ?_); rfl; simp only [Act.put, List.setIfInBounds_toArray, List.set_cons_zero, List.set_cons_succ]; go_big_quiet_on)
            | ((with_reducible refine load_whole W.heap.size ?_ (fun p => p.property.pr.box) Tryz.underlying27 HN.out ?_); rfl; simp only [Act.put, List.setIfInBounds_toArray, List.set_cons_zero, List.set_cons_succ]; go_big_quiet_on)
            | (go_big_quiet_op; first
              | go_big_quiet_on
              | ((refine ⟨_, fun _ _ => rfl, ?_⟩); go_big_quiet_on)
              | fail)))
        refine wpQuiet_nil ?_
        rintro _ ⟨⟨w2, h2⟩, rfl⟩
        have HS := Lib.hid h2
        have c0 := h2.strs k x Hy.out
        clear h2
        go_wp2_with fail
        go_roundw
        case rel => exact ⟨k + 1, by omega, by go_num, HM.out, HS.out⟩
        case measure => simp only [intOf]; go_num
      | false =>
        have KX := Lib.hid (KI.out x)
        have hi := HI.out x
        have eb : bad1 c x = !hasIface c x := by simp [bad1, h0]
        generalize idxF (fun y => y.name == x) c.ifaces = i at KX hi
        cases hh : hasIface c x with
        | true =>
          rw [hh] at hi eb
          have hi' : ¬ i < 0 := by simpa using hi
          have HM := Lib.hid (HM.out eb)
          clear hi eb hh HH
          go_wp2_with fail
          refine region_in (PrS W cs rs (l1 r) (W.heap.size + 1 + 1)) (by kernel_rfl) (by kernel_rfl) (HS.out.below (Below.refl _ _).drew) ?_
          repeat (first
            | go_big_quiet_skip
            | (go_big_quiet_want; first
              | ((with_reducible refine load_one (W.heap.size + 1 + 1) k ?_ Hx.out Tryz.isAgg9 ?_); rfl; simp only [Act.put, List.setIfInBounds_toArray, List.set_cons_zero, List.set_cons_succ]; go_big_quiet_on)
              | ((with_reducible refine load_whole W.heap.size ?_ (fun p => p.property.pr.box) Tryz.underlying27 HN.out ?_); rfl; simp only [Act.put, List.setIfInBounds_toArray, List.set_cons_zero, List.set_cons_succ]; go_big_quiet_on)
              | (go_big_quiet_op; first
                | go_big_quiet_on
                | ((refine ⟨_, fun _ _ => rfl, ?_⟩); go_big_quiet_on)
                | (apply Exists.intro; (with_reducible refine ⟨fun W1 hW1 => (KX.out W1 hW1.pr.low).mono ?_, ?_⟩); (rintro e w1 ⟨rfl, hb1⟩; exact ⟨rfl, hW1.below hb1⟩); go_big_quiet_on))))
          refine wpQuiet_nil ?_
          rintro _ ⟨⟨w2, h2⟩, rfl⟩
          have HS := Lib.hid h2
          have c0 := h2.strs k x Hy.out
          clear h2
          go_wp2_with fail
          go_roundw
          case rel => exact ⟨k + 1, by omega, by go_num, HM.out, HS.out⟩
          case measure => simp only [intOf]; go_num
        | false =>
          rw [hh] at hi eb
          have hi' : i < 0 := by simpa using hi
          have HV := Lib.hid (show (wrongOf c r).getD [] = x by rw [wrong_eq, HH.out eb]; rfl)
          clear hi eb hh HM HH
          go_wp2_with fail
          refine region_in (PrS W cs rs (l1 r) (W.heap.size + 1 + 1)) (by kernel_rfl) (by kernel_rfl) (HS.out.below (Below.refl _ _).drew) ?_
          repeat (first
            | go_big_quiet_skip
            | (go_big_quiet_want; first
              | ((with_reducible refine load_one (W.heap.size + 1 + 1) k ?_ Hx.out Tryz.isAgg9 ?_); rfl; simp only [Act.put, List.setIfInBounds_toArray, List.set_cons_zero, List.set_cons_succ]; go_big_quiet_on)
              | ((with_reducible refine load_whole W.heap.size ?_ (fun p => p.property.pr.box) Tryz.underlying27 HN.out ?_); rfl; simp only [Act.put, List.setIfInBounds_toArray, List.set_cons_zero, List.set_cons_succ]; go_big_quiet_on)
              | (go_big_quiet_op; first
                | go_big_quiet_on
                | ((refine ⟨_, fun _ _ => rfl, ?_⟩); go_big_quiet_on)
                | (apply Exists.intro; (with_reducible refine ⟨fun W1 hW1 => (KX.out W1 hW1.pr.low).mono ?_, ?_⟩); (rintro e w1 ⟨rfl, hb1⟩; exact ⟨rfl, hW1.below hb1⟩); go_big_quiet_on))))
          refine wpQuiet_nil ?_
          rintro _ ⟨⟨w2, h2⟩, rfl⟩
          have HS := Lib.hid h2
          have c0 := h2.strs k x Hy.out
          clear h2
          go_wp2_with fail
          go_ret
          exact ⟨by rw [HV.out]; rfl, HS.out.pr.low⟩
    · have hge : ¬ (k : Int) < 3 := by omega
      have hke : k = 3 := by omega
      have HG2 : Hid (∀ j y, j < (l1 r).length → (l1 r)[j]? = some y → bad1 c y = false) := by rw [show (l1 r).length = 3 from rfl, ← hke]; exact HG.out
      have HZ6 := Lib.hid (find_miss (bad1 c) (l1 r) HG2.out)
      have HP := Lib.hid hs.pr
      clear HS hs HG HG2
      have q6 := (cell_of_row _ _ 6 _ _ _ HP.out.rul).trans HQ.out.1
      have q12 := (cell_of_row _ _ 12 _ _ _ HP.out.rul).trans HQ.out.2
      go_upto_region 8 with fail
      have HS : Hid (PrS W cs rs (l2 r) wr.heap.size (wr.alloc (.cells #[.string ⟨r.frm.table.toArray⟩, .string ⟨r.dst.table.toArray⟩] 9))) := ⟨HP.out.below (bnew _ _), fun j x hx => row_strs _ (l2 r) _ _ rfl j x hx⟩
      clear q6 q12 HP
      generalize wr.alloc (.cells #[.string ⟨r.frm.table.toArray⟩, .string ⟨r.dst.table.toArray⟩] 9) = W3 at *
      generalize wr.heap.size = sb at *
      go_wp2_with fail
      go_loopw [7] (fun s7 wr => ∃ k : Nat, k ≤ 2 ∧ s7 = .int .i64 k ∧ (∀ j y, j < k → (l2 r)[j]? = some y → bad2 c y = false) ∧ PrS W cs rs (l2 r) sb wr) (fun s7 _ => 2 - (intOf s7).toNat)
      case atStart => exact ⟨0, by omega, rfl, fun j y hj => absurd hj (by omega), HS.out⟩
      case round =>
        obtain ⟨k, hkl, rfl, hno, hs⟩ := hrel
        have HG := Lib.hid hno
        have HS := Lib.hid hs
        clear hno
        by_cases hlt : k < 2
        · have hlt' : (k : Int) < 2 := by omega
          obtain ⟨x, hx⟩ : ∃ x, (l2 r)[k]? = some x := ⟨_, List.getElem?_eq_getElem (by simpa [l2] using hlt)⟩
          have Hx : Hid (∀ p : In (PrS W cs rs (l2 r) sb), p.val.cell? ⟨sb, k, none⟩ = some (.string ⟨x.toArray⟩)) := fun p => p.property.strs k x hx
          have Hy := Lib.hid hx
          have HM : Hid (bad2 c x = false → ∀ j y, j < k + 1 → (l2 r)[j]? = some y → bad2 c y = false) := fun hb j y hj hy => by
            by_cases e : j = k
            · subst e; rw [hx] at hy; cases hy; exact hb
            · exact HG.out j y (by omega) hy
          have HH : Hid (bad2 c x = true → (l2 r).find? (bad2 c) = some x) := fun hb => find_hit _ _ k x hx hb HG.out
          clear hx hs
          cases h0 : x.isEmpty with
          | true =>
            have HM := Lib.hid (HM.out (by simp [bad2, h0]))
            go_wp2_with fail
            refine region_in (PrS W cs rs (l2 r) sb) (by kernel_rfl) (by kernel_rfl) (HS.out.below (Below.refl _ _).drew) ?_
            repeat (first
              | go_big_quiet_skip
              | (go_big_quiet_want; first
                | ((with_reducible refine load_one sb k ?_ Hx.out Tryz.isAgg9 ?_); rfl; simp only [Act.put, List.setIfInBounds_toArray, List.set_cons_zero, List.set_cons_succ]; go_big_quiet_on)
                | ((with_reducible refine load_whole W.heap.size ?_ (fun p => p.property.pr.box) Tryz.underlying27 HN.out ?_); rfl; simp only [Act.put, List.setIfInBounds_toArray, List.set_cons_zero, List.set_cons_succ]; go_big_quiet_on)
                | (go_big_quiet_op; first
                  | go_big_quiet_on
                  | ((refine ⟨_, fun _ _ => rfl, ?_⟩); go_big_quiet_on)
                  | fail)))
            refine wpQuiet_nil ?_
            rintro _ ⟨⟨w2, h2⟩, rfl⟩
            have HS := Lib.hid h2
            have c0 := h2.strs k x Hy.out
            clear h2
            go_wp2_with fail
            go_roundw
            case rel => exact ⟨k + 1, by omega, by go_num, HM.out, HS.out⟩
            case measure => simp only [intOf]; go_num
          | false =>
            have KX := Lib.hid (KT.out x)
            rw [HTb.out x] at KX
            have eb : bad2 c x = !hasTable c x := by simp [bad2, h0]
            cases hh : hasTable c x with
            | true =>
              rw [hh] at KX eb
              have HM := Lib.hid (HM.out eb)
              clear eb hh HH
              go_wp2_with fail
              refine region_in (PrS W cs rs (l2 r) sb) (by kernel_rfl) (by kernel_rfl) (HS.out.below (Below.refl _ _).drew) ?_
              repeat (first
                | go_big_quiet_skip
                | (go_big_quiet_want; first
                  | ((with_reducible refine load_one sb k ?_ Hx.out Tryz.isAgg9 ?_); rfl; simp only [Act.put, List.setIfInBounds_toArray, List.set_cons_zero, List.set_cons_succ]; go_big_quiet_on)
                  | ((with_reducible refine load_whole W.heap.size ?_ (fun p => p.property.pr.box) Tryz.underlying27 HN.out ?_); rfl; simp only [Act.put, List.setIfInBounds_toArray, List.set_cons_zero, List.set_cons_succ]; go_big_quiet_on)
                  | (go_big_quiet_op; first
                    | go_big_quiet_on
                    | ((refine ⟨_, fun _ _ => rfl, ?_⟩); go_big_quiet_on)
                    | (apply Exists.intro; (with_reducible refine ⟨fun W1 hW1 => (KX.out W1 hW1.pr.low).mono ?_, ?_⟩); (rintro e w1 ⟨rfl, hb1⟩; exact ⟨rfl, hW1.below hb1⟩); go_big_quiet_on))))
              refine wpQuiet_nil ?_
              rintro _ ⟨⟨w2, h2⟩, rfl⟩
              have HS := Lib.hid h2
              have c0 := h2.strs k x Hy.out
              clear h2
              go_wp2_with fail
              go_roundw
              case rel => exact ⟨k + 1, by omega, by go_num, HM.out, HS.out⟩
              case measure => simp only [intOf]; go_num
            | false =>
              rw [hh] at KX eb
              have HV := Lib.hid (show (wrongOf c r).getD [] = x by rw [wrong_eq, HZ6.out, HH.out eb]; rfl)
              clear eb hh HM HH
              go_wp2_with fail
              refine region_in (PrS W cs rs (l2 r) sb) (by kernel_rfl) (by kernel_rfl) (HS.out.below (Below.refl _ _).drew) ?_
              repeat (first
                | go_big_quiet_skip
                | (go_big_quiet_want; first
                  | ((with_reducible refine load_one sb k ?_ Hx.out Tryz.isAgg9 ?_); rfl; simp only [Act.put, List.setIfInBounds_toArray, List.set_cons_zero, List.set_cons_succ]; go_big_quiet_on)
                  | ((with_reducible refine load_whole W.heap.size ?_ (fun p => p.property.pr.box) Tryz.underlying27 HN.out ?_); rfl; simp only [Act.put, List.setIfInBounds_toArray, List.set_cons_zero, List.set_cons_succ]; go_big_quiet_on)
                  | (go_big_quiet_op; first
                    | go_big_quiet_on
                    | ((refine ⟨_, fun _ _ => rfl, ?_⟩); go_big_quiet_on)
                    | (apply Exists.intro; (with_reducible refine ⟨fun W1 hW1 => (KX.out W1 hW1.pr.low).mono ?_, ?_⟩); (rintro e w1 ⟨rfl, hb1⟩; exact ⟨rfl, hW1.below hb1⟩); go_big_quiet_on))))
              refine wpQuiet_nil ?_
              rintro _ ⟨⟨w2, h2⟩, rfl⟩
              have HS := Lib.hid h2
              have c0 := h2.strs k x Hy.out
              clear h2
              go_wp2_with fail
              go_ret
              exact ⟨by rw [HV.out]; rfl, HS.out.pr.low⟩
        · have hge : ¬ (k : Int) < 2 := by omega
          have hke : k = 2 := by omega
          have HG2 : Hid (∀ j y, j < (l2 r).length → (l2 r)[j]? = some y → bad2 c y = false) := by rw [show (l2 r).length = 2 from rfl, ← hke]; exact HG.out
          have HZ7 := Lib.hid (find_miss (bad2 c) (l2 r) HG2.out)
          have HV := Lib.hid (show (wrongOf c r).getD [] = [] by rw [wrong_eq, HZ6.out, HZ7.out]; rfl)
          go_wp2_with fail
          go_ret
          exact ⟨by rw [HV.out]; rfl, hs.pr.low⟩
end Go.Proofs.YtnmbbnhgoedjgaaGreatDoor.CgW

namespace Go.Proofs.YtnmbbnhgoedjgaaGreatDoor.CgS
open Go Go.RowKit Go.Proofs.YtnmbbnhgoedjgaaGreatDoor.Eq Go.Proofs.YtnmbbnhgoedjgaaGreatDoor.Ad0 Go.Proofs.YtnmbbnhgoedjgaaGreatDoor.Ad1 Go.Proofs.YtnmbbnhgoedjgaaGreatDoor.St2 Go.Proofs.YtnmbbnhgoedjgaaGreatDoor.St3 Go.Proofs.YtnmbbnhgoedjgaaGreatDoor.Ru0 Go.Proofs.YtnmbbnhgoedjgaaGreatDoor.Ru3 Go.Proofs.YtnmbbnhgoedjgaaGreatDoor.Ru6 Go.Proofs.YtnmbbnhgoedjgaaGreatDoor.RuB Go.Proofs.YtnmbbnhgoedjgaaGreatDoor.RuC Go.Proofs.YtnmbbnhgoedjgaaGreatDoor.RuE Go.Proofs.YtnmbbnhgoedjgaaGreatDoor.Rw0 Go.Proofs.YtnmbbnhgoedjgaaGreatDoor.RuY Go.Proofs.YtnmbbnhgoedjgaaGreatDoor.Cf0 Go.Proofs.YtnmbbnhgoedjgaaGreatDoor.Cf4 Go.Proofs.YtnmbbnhgoedjgaaGreatDoor.Cf6 Go.Proofs.YtnmbbnhgoedjgaaGreatDoor.Cg0 Go.Proofs.YtnmbbnhgoedjgaaGreatDoor.Cg1 Go.Proofs.YtnmbbnhgoedjgaaGreatDoor.Cg4 Go.Proofs.YtnmbbnhgoedjgaaGreatDoor.CgM
set_option linter.unusedVariables false
set_option linter.unusedSimpArgs false
theorem iface_dec (p q : IfaceM) : decide (p = q) = ((p.name == q.name) && (decide (p.addr = q.addr) && ((p.mtu == q.mtu) && ((p.rpf == q.rpf) && true)))) := by
  obtain ⟨a, b, c, e⟩ := p
  obtain ⟨a', b', c', e'⟩ := q
  rw [Bool.eq_iff_iff]
  simp only [decide_eq_true_eq, IfaceM.mk.injEq, Bool.and_eq_true, beq_iff_eq, and_true]
theorem ex_addr (p : IfaceM) : (ifL p).toArray.extract 1 (1 + 2) = #[.int .u32 (p.addr.addr : Nat), .int .i64 p.addr.len] := rfl
section
open Go.Proofs.YtnmbbnhgoedjgaaGreatDoor.RuE
theorem equalIn_iface (d : Nat) (p q : IfaceM) (W : World) : (Op.equalIn (d + 3) 45 (.agg (ifL p).toArray) (.agg (ifL q).toArray)).run Tryz.prog W = .ok (decide (p = q)) W := by
  rw [iface_dec]
  exact eq_struct Tryz.underlying45 (by kernel_rfl) (fs (by rfl) rfl rfl rfl (fr (by rfl) rfl Tryz.underlying43 (by kernel_rfl) (ex_addr p) (ex_addr q) (equalIn_pfx d p.addr q.addr W)
    (fi (by rfl) rfl rfl rfl (fi (by rfl) rfl rfl rfl eqf_nil))))
end
theorem ne_iface (p q : IfaceM) (W : World) : (binOp .neq 45 (.agg (ifL p).toArray) (.agg (ifL q).toArray)).run Tryz.prog W = .ok (.bool (!decide (p = q))) W := neq_struct (equalIn_iface 9997 p q W)
theorem ne_pfx (p q : Pfx) (W : World) : (binOp .neq 43 (.agg (pfxL p).toArray) (.agg (pfxL q).toArray)).run Tryz.prog W = .ok (.bool (!decide (p = q))) W := neq_struct (equalIn_pfx 9998 p q W)
theorem ne_rule (p q : RuleM) (W : World) : (binOp .neq 75 (.agg (rlL p).toArray) (.agg (rlL q).toArray)).run Tryz.prog W = .ok (.bool (!decide (p = q))) W := by
  unfold rlL
  rw [Array.toArray_toList, Array.toArray_toList]
  exact neq_struct (RuE.equalIn_rule 9996 p q W)
theorem named_dec (p q : NamedM) : decide (p = q) = ((p.name == q.name) && decide (p.l = q.l)) := by
  obtain ⟨a, b⟩ := p
  obtain ⟨a', b'⟩ := q
  rw [Bool.eq_iff_iff]
  simp only [decide_eq_true_eq, NamedM.mk.injEq, Bool.and_eq_true, beq_iff_eq]
theorem same1_any (t u : NamedM × Value) (ht : t.1.l.length ≤ 4611686018427387904) (hu : u.1.l.length ≤ 4611686018427387904) (W : World) (h : Sl W t.2 t.1.l.length (t.1.l.flatMap pfxL)) (h' : Sl W u.2 u.1.l.length (u.1.l.flatMap pfxL)) :
    Calls Tryz.prog 56 #[.agg (nmL t).toArray, .agg (nmL u).toArray] W fun e w' => e = .returned (.bool (decide (t.1 = u.1))) ∧ Below W.heap.size W w' := by
  rw [named_dec]
  obtain ⟨⟨n, l⟩, a⟩ := t
  obtain ⟨⟨m, k⟩, b⟩ := u
  dsimp only at *
  have HB := Lib.hid (bnew2 W (.cells #[.string ⟨n.toArray⟩, a] 66) (.cells #[.string ⟨m.toArray⟩, b] 66))
  have KE := Lib.hid (eql_pfx pfxL pfxL_len ne_pfx l k ht hu a b _ (h.below HB.out) (h'.below HB.out))
  clear h h'
  show Calls Tryz.prog 56 #[.agg #[.string ⟨n.toArray⟩, a], .agg #[.string ⟨m.toArray⟩, b]] W _
  generalize decide (l = k) = r at KE
  cases hq : n == m
  all_goals
    go_enter Tryz.func56, Tryz.ntmps56
    go_wp2_with (go_at_call 53; (with_reducible refine KE.out.mono ?_); rintro e w1 ⟨rfl, hb1⟩; have HB := Lib.hid (bstep HB.out hb1 HB.out.size); clear hb1)
    go_ret
    exact ⟨rfl, HB.out⟩
set_option maxHeartbeats 4000000 in
theorem eqfunc_any (ts us : List (NamedM × Value)) (hn : ts.length ≤ 4611686018427387904) (hm : us.length ≤ 4611686018427387904) (u v : Value) (W : World) (hu : Sl W u ts.length (ts.flatMap nmL)) (hv : Sl W v us.length (us.flatMap nmL))
    (hT : ∀ t ∈ ts, ∀ s ∈ us, ∀ W', Below W.heap.size W W' → Calls Tryz.prog 56 #[.agg (nmL t).toArray, .agg (nmL s).toArray] W' fun e w' => e = .returned (.bool (decide (t.1 = s.1))) ∧ Below W'.heap.size W' w')
    (hO : ∀ t ∈ ts ++ us, t.2.oneCell' = true) :
    Calls Tryz.prog 55 #[u, v, .func (.func 56) #[] #[]] W fun e w' => e = .returned (.bool (decide (ts.map (·.1) = us.map (·.1)))) ∧ Below W.heap.size W w' := by
  have HU := Lib.hid hu
  have HV := Lib.hid hv
  have HTt := Lib.hid hT
  have HO := Lib.hid hO
  obtain ⟨A, cap, rfl, hcap, -⟩ := hu
  obtain ⟨A', cap', rfl, hcap', -⟩ := hv
  clear hT hO
  by_cases hl : ts.length = us.length
  rotate_left
  · have hl' : ¬ (ts.length : Int) = us.length := by omega
    have HD := Lib.hid (show decide (ts.map (·.1) = us.map (·.1)) = false by simp only [decide_eq_false_iff_not]; intro h; have := congrArg List.length h; simp at this; exact hl this)
    go_enter Tryz.func55, Tryz.ntmps55
    go_wp2_with fail
    go_ret
    exact ⟨by rw [HD.out]; rfl, Below.refl _ _⟩
  have KV := Lib.hid (fun k y (hy : us[k]? = some y) => HV.out.at nmL_len k y hy)
  clear HV hm
  generalize hmn : us.length = mn at *
  subst hl
  go_enter Tryz.func55, Tryz.ntmps55
  go_wp2_with fail
  go_loopw [17] (fun s17 wr => ∃ k : Nat, k ≤ ts.length ∧ s17 = .int .i64 k ∧ (∀ j, j < k → (ts.map (·.1))[j]? = (us.map (·.1))[j]?) ∧ Below W.heap.size W wr) (fun s17 _ => ts.length - (intOf s17).toNat)
  case atStart => exact ⟨0, by omega, rfl, fun j hj => absurd hj (by omega), Below.refl _ _⟩
  case round =>
    obtain ⟨k, hkl, rfl, hno, hb⟩ := hrel
    have HN := Lib.hid hno
    have HB := Lib.hid hb
    clear hno
    by_cases hlt : k < ts.length
    · have hlt' : (k : Int) < ts.length := by omega
      have hk63 : (k : Int) + 1 ≤ 9223372036854775807 := by omega
      obtain ⟨x, hx⟩ : ∃ x, ts[k]? = some x := ⟨_, List.getElem?_eq_getElem hlt⟩
      obtain ⟨y, hy⟩ : ∃ y, us[k]? = some y := ⟨_, List.getElem?_eq_getElem (by omega)⟩
      obtain ⟨b, o, c1, hv1, -, hbl, hr⟩ := HU.out.at nmL_len k x hx
      obtain ⟨b', o', c2, hv2, -, hbl', hr'⟩ := KV.out k y hy
      injection hv1 with e1 e2 e3
      subst e1 e3
      injection hv2 with e1 e2 e3
      subst e1 e3
      have HX := Lib.hid (range_below hr hb hbl)
      have HY0 := Lib.hid (fun V (hV : Below W.heap.size W V) => range_below hr' hV hbl')
      have HC := Lib.hid (HTt.out x (List.mem_of_getElem? hx) y (List.mem_of_getElem? hy))
      have HNx := Lib.hid (info2n x)
      have HNy := Lib.hid (info2n y)
      have HNl := Lib.hid (show (Tryz.prog.info? 66).map (·.size) = some (nmL x).length by kernel_rfl)
      have HNm := Lib.hid (show (Tryz.prog.info? 66).map (·.size) = some (nmL y).length by kernel_rfl)
      have HSz := Lib.hid (show (nmL x).toArray.size = 2 from rfl)
      have HSy := Lib.hid (show (nmL y).toArray.size = 2 from rfl)
      have HOx := Lib.hid (show (nmL x).toArray.all (·.oneCell') = true by rw [nmL, List.all_toArray, List.all_cons, List.all_cons, HO.out x (List.mem_append_left _ (List.mem_of_getElem? hx))]; rfl)
      have HOy := Lib.hid (show (nmL y).toArray.all (·.oneCell') = true by rw [nmL, List.all_toArray, List.all_cons, List.all_cons, HO.out y (List.mem_append_right _ (List.mem_of_getElem? hy))]; rfl)
      have ex : (ts.map (·.1))[k]? = some x.1 := by rw [List.getElem?_map, hx]; rfl
      have ey : (us.map (·.1))[k]? = some y.1 := by rw [List.getElem?_map, hy]; rfl
      have HM : Hid (x.1 = y.1 → ∀ j, j < k + 1 → (ts.map (·.1))[j]? = (us.map (·.1))[j]?) := fun e j hj => by
        by_cases ej : j = k
        · subst ej; rw [ex, ey, e]
        · exact HN.out j (by omega)
      have HF : Hid (x.1 ≠ y.1 → decide (ts.map (·.1) = us.map (·.1)) = false) := fun e => by
        simp only [decide_eq_false_iff_not]
        intro h
        rw [h, ey] at ex
        exact e (Option.some.inj ex).symm
      clear hr hr' hx hy ex ey hb
      generalize nmL x = fx at *
      generalize nmL y = fy at *
      cases hd : decide (x.1 = y.1) with
      | true =>
        have hM := Lib.hid (HM.out (of_decide_eq_true hd))
        rw [hd] at HC
        go_wp2_with (first
          | ((with_reducible refine load_range b (o + k * 2) ?_ HX.out Tryz.underlying66 HNl.out ?_ ?_); rfl; rfl)
          | ((with_reducible refine store_new fx.toArray ?_ ?_ ?_ HNx.out HOx.out ?_ ?_); rfl; rfl; exact HSz.out; rfl; intro V hV hbV hlV; have HB := Lib.hid (bstep HB.out hbV HB.out.size); have HR1 := Lib.hid hV; have HY := Lib.hid (HY0.out V HB.out); clear hV hbV)
          | ((with_reducible refine load_range b' (o' + k * 2) ?_ HY.out Tryz.underlying66 HNm.out ?_ ?_); rfl; rfl)
          | ((with_reducible refine store_new fy.toArray ?_ ?_ ?_ HNy.out HOy.out ?_ ?_); rfl; rfl; exact HSy.out; rfl; intro V2 hV hbV2 hlV2; have HB := Lib.hid (bstep HB.out hbV2 HB.out.size); have HR1 := row_step HR1 hbV2; have HR2 := Lib.hid hV; clear hV)
          | ((with_reducible refine Mem.load_row wr.heap.size ?_ HR1.out Tryz.underlying66 HNx.out ?_ ?_); rfl; rfl)
          | ((with_reducible refine Mem.load_row V.heap.size ?_ HR2.out Tryz.underlying66 HNy.out ?_ ?_); rfl; rfl)
          | (go_at_call 56; (with_reducible refine (HC.out _ HB.out).mono ?_); rintro e w1 ⟨rfl, hb1⟩; have HB := Lib.hid (bstep HB.out hb1 HB.out.size); clear hb1))
        go_roundw
        case rel => exact ⟨k + 1, by omega, by go_num, hM.out, HB.out⟩
        case measure => simp only [intOf]; go_num
      | false =>
        have hF := Lib.hid (HF.out (of_decide_eq_false hd))
        rw [hd] at HC
        go_wp2_with (first
          | ((with_reducible refine load_range b (o + k * 2) ?_ HX.out Tryz.underlying66 HNl.out ?_ ?_); rfl; rfl)
          | ((with_reducible refine store_new fx.toArray ?_ ?_ ?_ HNx.out HOx.out ?_ ?_); rfl; rfl; exact HSz.out; rfl; intro V hV hbV hlV; have HB := Lib.hid (bstep HB.out hbV HB.out.size); have HR1 := Lib.hid hV; have HY := Lib.hid (HY0.out V HB.out); clear hV hbV)
          | ((with_reducible refine load_range b' (o' + k * 2) ?_ HY.out Tryz.underlying66 HNm.out ?_ ?_); rfl; rfl)
          | ((with_reducible refine store_new fy.toArray ?_ ?_ ?_ HNy.out HOy.out ?_ ?_); rfl; rfl; exact HSy.out; rfl; intro V2 hV hbV2 hlV2; have HB := Lib.hid (bstep HB.out hbV2 HB.out.size); have HR1 := row_step HR1 hbV2; have HR2 := Lib.hid hV; clear hV)
          | ((with_reducible refine Mem.load_row wr.heap.size ?_ HR1.out Tryz.underlying66 HNx.out ?_ ?_); rfl; rfl)
          | ((with_reducible refine Mem.load_row V.heap.size ?_ HR2.out Tryz.underlying66 HNy.out ?_ ?_); rfl; rfl)
          | (go_at_call 56; (with_reducible refine (HC.out _ HB.out).mono ?_); rintro e w1 ⟨rfl, hb1⟩; have HB := Lib.hid (bstep HB.out hb1 HB.out.size); clear hb1))
        go_ret
        exact ⟨by rw [hF.out]; rfl, HB.out⟩
    · have hge : ¬ (k : Int) < ts.length := by omega
      have hke : k = ts.length := by omega
      have HD := Lib.hid (show decide (ts.map (·.1) = us.map (·.1)) = true by
        simp only [decide_eq_true_eq]
        exact same_at _ _ (by simp [hmn]) (by rw [List.length_map, ← hke]; exact HN.out))
      go_wp2_with fail
      go_ret
      exact ⟨by rw [HD.out]; rfl, HB.out⟩
end Go.Proofs.YtnmbbnhgoedjgaaGreatDoor.CgS

