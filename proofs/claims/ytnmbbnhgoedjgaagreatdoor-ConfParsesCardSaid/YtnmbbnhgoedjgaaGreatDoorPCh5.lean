/- conf.unknown. castellanref20.iface, Is, Print. castellanref20.readTable. -/
import Derived.Test.YtnmbbnhgoedjgaaGreatDoorPCg1
import Derived.Test.YtnmbbnhgoedjgaaGreatDoorPCg8
import Derived.Test.YtnmbbnhgoedjgaaGreatDoorPCgM
import Derived.Test.YtnmbbnhgoedjgaaGreatDoorPCf9
import Derived.Test.YtnmbbnhgoedjgaaGreatDoorPRuM
import Derived.Test.YtnmbbnhgoedjgaaGreatDoorPAd2
import Derived.Test.YtnmbbnhgoedjgaaGreatDoorPStA
import Derived.Deep.DeepCutAuto
namespace Go.Proofs.YtnmbbnhgoedjgaaGreatDoor.Cg9
open Go Go.RowKit Go.Proofs.YtnmbbnhgoedjgaaGreatDoor.Ad1 Go.Proofs.YtnmbbnhgoedjgaaGreatDoor.St2 Go.Proofs.YtnmbbnhgoedjgaaGreatDoor.Ru0 Go.Proofs.YtnmbbnhgoedjgaaGreatDoor.Ru6 Go.Proofs.YtnmbbnhgoedjgaaGreatDoor.RuB Go.Proofs.YtnmbbnhgoedjgaaGreatDoor.RuC Go.Proofs.YtnmbbnhgoedjgaaGreatDoor.RuD Go.Proofs.YtnmbbnhgoedjgaaGreatDoor.RuY Go.Proofs.YtnmbbnhgoedjgaaGreatDoor.Cf0 Go.Proofs.YtnmbbnhgoedjgaaGreatDoor.Cf4 Go.Proofs.YtnmbbnhgoedjgaaGreatDoor.Cf5 Go.Proofs.YtnmbbnhgoedjgaaGreatDoor.Cf6 Go.Proofs.YtnmbbnhgoedjgaaGreatDoor.Cg0 Go.Proofs.YtnmbbnhgoedjgaaGreatDoor.Cg8 Go.Proofs.YtnmbbnhgoedjgaaGreatDoor.Cf8
set_option linter.unusedVariables false
set_option linter.unusedSimpArgs false
def l1 (r : RuleM) : List Wd := [r.on, r.routeTo.iface, r.replyTo.iface]
def l2 (r : RuleM) : List Wd := [r.frm.table, r.dst.table]
def bad1 (c : ConfM) (n : Wd) : Bool := !n.isEmpty && !hasIface c n
def bad2 (c : ConfM) (n : Wd) : Bool := !n.isEmpty && !hasTable c n
theorem wrong_eq (c : ConfM) (r : RuleM) : wrongOf c r = ((l1 r).find? (bad1 c)).orElse fun _ => (l2 r).find? (bad2 c) := rfl
/-- Two boxes. -/
structure PrU (W : World) (cs rs : Array Value) (w : World) : Prop where
  box : w.heap[W.heap.size]? = some (.cells cs 27 (0, 0))
  rul : w.heap[W.heap.size + 1]? = some (.cells rs 75 (0, 0))
  low : Below W.heap.size W w
  lt : W.heap.size + 1 < w.heap.size
section
variable {W : World} {cs rs : Array Value}
theorem PrU.below {w w' : World} (h : PrU W cs rs w) (hb : Below w.heap.size w w') : PrU W cs rs w' :=
  ⟨(hb.block _ (by have := h.lt; omega)).trans h.box, (hb.block _ h.lt).trans h.rul, bstep h.low hb h.low.size, Nat.lt_of_lt_of_le h.lt hb.size⟩
theorem PrU.new (W : World) (cs rs : Array Value) : PrU W cs rs ((W.alloc (.cells cs 27)).alloc (.cells rs 75)) :=
  ⟨heap_alloc2_old W _ _, heap_alloc2_new W _ _, bnew2 W _ _, by simp⟩
end
theorem idx_neg {α : Type} (p : α → Bool) (l : List α) : decide (idxF p l < 0) = !l.any p := by
  rw [← idx_any, ← decide_not, decide_eq_decide]
  omega
theorem named_has (ts : List (NamedM × Value)) (c : ConfM) (h : ts.map (·.1) = c.tables) (n : Wd) : (ts.any fun t => t.1.name == n) = hasTable c n := by
  unfold hasTable
  rw [← h, List.any_map]
  rfl
/-- A row of strings, cell by cell. -/
theorem row_strs (w : World) (L : List Wd) (T : TypeId) (g : Nat) (hg : g = w.heap.size) (j : Nat) (x : Wd) (hx : L[j]? = some x) : (w.alloc (.cells (L.map fun x => Value.string ⟨x.toArray⟩).toArray T)).cell? ⟨g, j, none⟩ = some (.string ⟨x.toArray⟩) := by
  subst hg
  rw [cell_of_row _ _ _ _ _ _ (heap_alloc_new w _)]
  simp [hx]
theorem strs_below {w w' : World} {L : List Wd} {g : Nat} (h : ∀ (j : Nat) (x : Wd), L[j]? = some x → w.cell? ⟨g, j, none⟩ = some (.string ⟨x.toArray⟩)) (hb : Below w.heap.size w w') : ∀ (j : Nat) (x : Wd), L[j]? = some x → w'.cell? ⟨g, j, none⟩ = some (.string ⟨x.toArray⟩) := fun j x hx => (hb.cell (World.block_lt_of_cell? w _ (h j x hx))).trans (h j x hx)
set_option maxRecDepth 20000 in
set_option maxHeartbeats 4000000 in
theorem unknown_any (c : ConfM) (v0 v1 v2 v3 : Value) (ts : List (NamedM × Value)) (r : RuleM) (W : World) (h : ConfIn W v0 v1 v2 v3 ts c) (hf : FitC c) :
    Calls Tryz.prog 36 #[.agg (confC v0 v1 v2 v3 c), .agg (ruleC r)] W fun e w' => e = .returned (foundV (wrongOf c r)) ∧ Below W.heap.size W w' := by
  have HN := Lib.hid (show (Tryz.prog.info? 27).map (·.size) = some (confC v0 v1 v2 v3 c).size by kernel_rfl)
  have KI := Lib.hid (fun (n : Wd) W' (hb : Below W.heap.size W W') => confIface_any ifL (·.name) (fun x => ⟨_, _, _, _, rfl⟩) c.ifaces (by have := hf.ni; omega) v0 v1 v2 v3 (.int .i64 c.flows) (.int .i64 c.errors) n W' (h.below hb).ifaces)
  have KI := Lib.hid (show ∀ (n : Wd) W', Below W.heap.size W W' → Calls Tryz.prog 22 #[.agg (confC v0 v1 v2 v3 c), .string ⟨n.toArray⟩] W' _ from KI.out)
  have KT := Lib.hid (fun (n : Wd) W' (hb : Below W.heap.size W W') (nb : Nat) (hc : W'.cell? ⟨nb, 0, none⟩ = some (.string ⟨n.toArray⟩)) => has_named nmL nmL_len (fun t => t.1.name == n) ts (by have := hf.nt; have := h.tlen; omega) v2 W' (h.below hb).tables (.pointer (some ⟨nb, 0, none⟩)) (fun t _ W2 hb2 => named1_any t.1.name n t.2 nb W2 ((hb2.cell (World.block_lt_of_cell? W' _ hc)).trans hc)))
  have HTb := Lib.hid (named_has ts c h.tab)
  have HI : Hid (∀ n, decide (idxF (fun x => x.name == n) c.ifaces < 0) = !hasIface c n) := fun n => idx_neg _ _
  have d2 : (confC v0 v1 v2 v3 c)[2]? = some v2 := rfl
  have rc3 : (ruleC r)[3]? = some (.string ⟨r.on.toArray⟩) := rfl
  have rc6 : (ruleC r)[6]? = some (.string ⟨r.frm.table.toArray⟩) := rfl
  have rc12 : (ruleC r)[12]? = some (.string ⟨r.dst.table.toArray⟩) := rfl
  have rc22 : (ruleC r)[22]? = some (.string ⟨r.routeTo.iface.toArray⟩) := rfl
  have rc25 : (ruleC r)[25]? = some (.string ⟨r.replyTo.iface.toArray⟩) := rfl
  have HP := Lib.hid (PrU.new W (confC v0 v1 v2 v3 c) (ruleC r))
  generalize confC v0 v1 v2 v3 c = cs at *
  generalize ruleC r = rs at *
  have q3 := (cell_of_row _ _ 3 _ _ _ HP.out.rul).trans rc3
  have q22 := (cell_of_row _ _ 22 _ _ _ HP.out.rul).trans rc22
  have q25 := (cell_of_row _ _ 25 _ _ _ HP.out.rul).trans rc25
  have HQ : Hid (_ ∧ _ ∧ _) := ⟨d2, rc6, rc12⟩
  clear d2 rc3 rc6 rc12 rc22 rc25 h hf
  go_enter Tryz.func36, Tryz.ntmps36
  go_upto_region 2 with fail
  have HS : Hid (∀ (j : Nat) (x : Wd), (l1 r)[j]? = some x → (((W.alloc (.cells cs 27)).alloc (.cells rs 75)).alloc (.cells #[.string ⟨r.on.toArray⟩, .string ⟨r.routeTo.iface.toArray⟩, .string ⟨r.replyTo.iface.toArray⟩] 9)).cell? ⟨W.heap.size + 2, j, none⟩ = some (.string ⟨x.toArray⟩)) := fun j x hx => row_strs _ (l1 r) _ _ (by simp) j x hx
  have HP := Lib.hid (HP.out.below (bnew _ (.cells #[.string ⟨r.on.toArray⟩, .string ⟨r.routeTo.iface.toArray⟩, .string ⟨r.replyTo.iface.toArray⟩] 9)))
  clear q3 q22 q25
  generalize ((W.alloc (.cells cs 27)).alloc (.cells rs 75)).alloc (.cells #[.string ⟨r.on.toArray⟩, .string ⟨r.routeTo.iface.toArray⟩, .string ⟨r.replyTo.iface.toArray⟩] 9) = W2 at *
  go_loopw [20] (fun s20 wr => ∃ k : Nat, k ≤ 3 ∧ s20 = .int .i64 k ∧ (∀ j y, j < k → (l1 r)[j]? = some y → bad1 c y = false) ∧ PrU W cs rs wr ∧ (∀ (j : Nat) (x : Wd), (l1 r)[j]? = some x → wr.cell? ⟨W.heap.size + 2, j, none⟩ = some (.string ⟨x.toArray⟩))) (fun s20 _ => 3 - (intOf s20).toNat)
  case atStart => exact ⟨0, by omega, rfl, fun j y hj => absurd hj (by omega), HP.out, HS.out⟩
  case round =>
    obtain ⟨k, hkl, rfl, hno, hp, hs⟩ := hrel
    have HG := Lib.hid hno
    have HP := Lib.hid hp
    have HS := Lib.hid hs
    clear hno
    by_cases hlt : k < 3
    · have hlt' : (k : Int) < 3 := by omega
      obtain ⟨x, hx⟩ : ∃ x, (l1 r)[k]? = some x := ⟨_, List.getElem?_eq_getElem (by simpa [l1] using hlt)⟩
      have c0 := hs k x hx
      clear hs hp
      have HM : Hid (bad1 c x = false → ∀ j y, j < k + 1 → (l1 r)[j]? = some y → bad1 c y = false) := fun hb j y hj hy => by
        by_cases e : j = k
        · subst e; rw [hx] at hy; cases hy; exact hb
        · exact HG.out j y (by omega) hy
      have HH : Hid (bad1 c x = true → (l1 r).find? (bad1 c) = some x) := fun hb => find_hit _ _ k x hx hb HG.out
      clear hx
      cases h0 : x.isEmpty with
      | true =>
        have HM := Lib.hid (HM.out (by simp [bad1, h0]))
        go_wp2_with fail
        exact ⟨⟨k + 1, by omega, by go_num, HM.out, HP.out, HS.out⟩, by simp only [intOf]; go_num⟩
      | false =>
        have KX := Lib.hid (KI.out x)
        have hi := HI.out x
        have eb : bad1 c x = !hasIface c x := by simp [bad1, h0]
        generalize idxF (fun y => y.name == x) c.ifaces = i at KX hi
        cases hh : hasIface c x with
        | true =>
          rw [hh] at hi eb
          have hi' : ¬ i < 0 := by simpa using hi
          have HM := Lib.hid (HM.out eb)
          clear hi eb hh HH
          go_wp2_with (first
            | ((with_reducible refine Mem.load_row W.heap.size ?_ HP.out.box Tryz.underlying27 HN.out ?_ ?_); rfl; rfl)
            | (go_at_call 22; (with_reducible refine (KX.out _ HP.out.low).mono ?_); rintro e w1 ⟨rfl, hb1⟩; have HS := Lib.hid (strs_below HS.out hb1); have HP := Lib.hid (HP.out.below hb1); clear hb1))
          exact ⟨⟨k + 1, by omega, by go_num, HM.out, HP.out, HS.out⟩, by simp only [intOf]; go_num⟩
        | false =>
          rw [hh] at hi eb
          have hi' : i < 0 := by simpa using hi
          have HV := Lib.hid (show foundV (wrongOf c r) = .tuple #[.string ⟨x.toArray⟩, .bool true] by rw [wrong_eq, HH.out eb]; rfl)
          clear hi eb hh HM HH
          go_wp2_with (first
            | ((with_reducible refine Mem.load_row W.heap.size ?_ HP.out.box Tryz.underlying27 HN.out ?_ ?_); rfl; rfl)
            | (go_at_call 22; (with_reducible refine (KX.out _ HP.out.low).mono ?_); rintro e w1 ⟨rfl, hb1⟩; have HP := Lib.hid (HP.out.below hb1); clear hb1))
          go_ret2
          exact ⟨by rw [HV.out]; rfl, HP.out.low⟩
    · have hge : ¬ (k : Int) < 3 := by omega
      have HZ := Lib.hid (find_miss (bad1 c) (l1 r) (by obtain rfl : k = 3 := by omega
                                                        exact HG.out))
      clear HS hs HG
      have q6 := (cell_of_row _ _ 6 _ _ _ HP.out.rul).trans HQ.out.2.1
      have q12 := (cell_of_row _ _ 12 _ _ _ HP.out.rul).trans HQ.out.2.2
      go_upto_region 8 with fail
      have HS : Hid (∀ (j : Nat) (x : Wd), (l2 r)[j]? = some x → (wr.alloc (.cells #[.string ⟨r.frm.table.toArray⟩, .string ⟨r.dst.table.toArray⟩] 9)).cell? ⟨wr.heap.size, j, none⟩ = some (.string ⟨x.toArray⟩)) := fun j x hx => row_strs _ (l2 r) _ _ rfl j x hx
      have HP := Lib.hid (HP.out.below (bnew _ (.cells #[.string ⟨r.frm.table.toArray⟩, .string ⟨r.dst.table.toArray⟩] 9)))
      clear q6 q12 hp
      generalize wr.alloc (.cells #[.string ⟨r.frm.table.toArray⟩, .string ⟨r.dst.table.toArray⟩] 9) = W3 at *
      generalize wr.heap.size = sb at *
      go_loopw [42] (fun s42 wr => ∃ k : Nat, k ≤ 2 ∧ s42 = .int .i64 k ∧ (∀ j y, j < k → (l2 r)[j]? = some y → bad2 c y = false) ∧ PrU W cs rs wr ∧ (∀ (j : Nat) (x : Wd), (l2 r)[j]? = some x → wr.cell? ⟨sb, j, none⟩ = some (.string ⟨x.toArray⟩))) (fun s42 _ => 2 - (intOf s42).toNat)
      case atStart => exact ⟨0, by omega, rfl, fun j y hj => absurd hj (by omega), HP.out, HS.out⟩
      case round =>
        obtain ⟨k, hkl, rfl, hno, hp, hs⟩ := hrel
        have HG := Lib.hid hno
        clear hno
        by_cases hlt : k < 2
        · have hlt' : (k : Int) < 2 := by omega
          obtain ⟨x, hx⟩ : ∃ x, (l2 r)[k]? = some x := ⟨_, List.getElem?_eq_getElem (by simpa [l2] using hlt)⟩
          have c0 := hs k x hx
          have HM : Hid (bad2 c x = false → ∀ j y, j < k + 1 → (l2 r)[j]? = some y → bad2 c y = false) := fun hb j y hj hy => by
            by_cases e : j = k
            · subst e; rw [hx] at hy; cases hy; exact hb
            · exact HG.out j y (by omega) hy
          have HH : Hid (bad2 c x = true → (l2 r).find? (bad2 c) = some x) := fun hb => find_hit _ _ k x hx hb HG.out
          have hbV := bnew wr (.cells #[.string ⟨x.toArray⟩] 9)
          have hcV : (wr.alloc (.cells #[.string ⟨x.toArray⟩] 9)).cell? ⟨wr.heap.size, 0, none⟩ = some (.string ⟨x.toArray⟩) := (cell_of_row _ _ 0 _ _ _ (heap_alloc_new wr _)).trans rfl
          have HP := Lib.hid (hp.below hbV)
          have HS := Lib.hid (strs_below hs hbV)
          have q2 := (cell_of_row _ _ 2 _ _ _ HP.out.box).trans HQ.out.1
          clear hx hs hbV
          cases h0 : x.isEmpty with
          | true =>
            have HM := Lib.hid (HM.out (by simp [bad2, h0]))
            go_wp2_with fail
            exact ⟨⟨k + 1, by omega, by go_num, HM.out, HP.out, HS.out⟩, by simp only [intOf]; go_num⟩
          | false =>
            have KX := Lib.hid (KT.out x _ HP.out.low wr.heap.size hcV)
            rw [HTb.out x] at KX
            have eb : bad2 c x = !hasTable c x := by simp [bad2, h0]
            have HcV := Lib.hid hcV
            cases hh : hasTable c x with
            | true =>
              rw [hh] at KX eb
              have HM := Lib.hid (HM.out eb)
              clear eb hh HH
              go_wp2_with (go_at_call 42; (with_reducible refine KX.out.mono ?_); rintro e w1 ⟨rfl, hb1⟩; have HS := Lib.hid (strs_below HS.out hb1); have HP := Lib.hid (HP.out.below hb1); clear hb1)
              go_roundw
              case rel => exact ⟨k + 1, by omega, by go_num, HM.out, HP.out, HS.out⟩
              case measure => simp only [intOf]; go_num
            | false =>
              rw [hh] at KX eb
              have HV := Lib.hid (show foundV (wrongOf c r) = .tuple #[.string ⟨x.toArray⟩, .bool true] by rw [wrong_eq, HZ.out, HH.out eb]; rfl)
              clear eb hh HH HM
              go_wp2_with (go_at_call 42; (with_reducible refine KX.out.mono ?_); rintro e w1 ⟨rfl, hb1⟩; have HP := Lib.hid (HP.out.below hb1); have cx := (hb1.cell (World.block_lt_of_cell? _ _ HcV.out)).trans HcV.out; clear hb1)
              go_ret2
              exact ⟨by rw [HV.out]; rfl, HP.out.low⟩
        · obtain rfl : k = 2 := by omega
          have HV := Lib.hid (show foundV (wrongOf c r) = .tuple #[.string ⟨#[]⟩, .bool false] by rw [wrong_eq, HZ.out, find_miss (bad2 c) (l2 r) HG.out]; rfl)
          go_wp2_with fail
          go_ret2
          exact ⟨by rw [HV.out]; rfl, hp.low⟩
end Go.Proofs.YtnmbbnhgoedjgaaGreatDoor.Cg9

namespace Go.Proofs.YtnmbbnhgoedjgaaGreatDoor.Cg6
open Go Go.RowKit Go.Proofs.YtnmbbnhgoedjgaaGreatDoor.Ad0 Go.Proofs.YtnmbbnhgoedjgaaGreatDoor.Ad1 Go.Proofs.YtnmbbnhgoedjgaaGreatDoor.Ru0 Go.Proofs.YtnmbbnhgoedjgaaGreatDoor.Ru6 Go.Proofs.YtnmbbnhgoedjgaaGreatDoor.Ad2 Go.Proofs.YtnmbbnhgoedjgaaGreatDoor.RuQ Go.Proofs.YtnmbbnhgoedjgaaGreatDoor.Cf0 Go.Proofs.YtnmbbnhgoedjgaaGreatDoor.Cf4 Go.Proofs.YtnmbbnhgoedjgaaGreatDoor.Cg0
set_option linter.unusedVariables false
set_option linter.unusedSimpArgs false
set_option maxRecDepth 20000 in
set_option maxHeartbeats 4000000 in
theorem riface_any (x : IfaceM) (hx : x.name.length ≤ 9223372036854775807) (hp : x.addr.ok) (w : World) :
    Calls Tryz.prog 49 #[.agg (ifL x).toArray] w fun e w' => e = .returned (.bool (isI x)) ∧ Below w.heap.size w w' := by
  obtain ⟨nm, ⟨a, n⟩, mtu, rpf⟩ := x
  dsimp only at hx hp
  have KN := Lib.hid (fun W' => rname_any ⟨nm.toArray⟩ (by simpa [ByteArray.size] using hx) W')
  have KC := Lib.hid (fun W' => rcast_any a hp W')
  have HB := Lib.hid (bnew2 w (.cells #[.string ⟨nm.toArray⟩, .int .u32 (a : Nat), .int .i64 n, .int .i64 mtu, .int .i64 rpf] 45) (.cells #[.int .u32 (a : Nat), .int .i64 n] 43))
  unfold isI
  show Calls Tryz.prog 49 #[.agg #[.string ⟨nm.toArray⟩, .int .u32 (a : Nat), .int .i64 n, .int .i64 mtu, .int .i64 rpf]] w _
  dsimp only
  have HV : Hid (∀ V : World, Below w.heap.size w ((V.alloc (.cells #[.int .u32 0, .int .i64 0] 43))) → True) := fun _ _ => trivial
  have hn : (⟨nm.toArray⟩ : ByteArray).data.toList = nm := rfl
  rw [hn] at KN
  clear hn HV HB
  generalize castF a = cb at KC ⊢
  have ha : (16777216 ≤ a) = ¬ ((a : Int) / 16777216 = 0) := by
    apply propext; constructor <;> intro h <;> omega
  rw [decide_eq_decide.2 (Iff.of_eq ha)]
  cases q0 : nameL nm with
  | false =>
    rw [q0] at KN
    go_enter Tryz.func49, Tryz.ntmps49
    go_wp2_with (first
      | (go_at_call 50; (with_reducible refine (KN.out _).mono ?_); rintro e v1 ⟨rfl, rfl⟩)
      | (go_at_call 96; (with_reducible refine (KC.out _).mono ?_); rintro e v2 ⟨rfl, rfl⟩))
    go_ret
    exact ⟨rfl, bnew2 _ _ _⟩
  | true =>
  rw [q0] at KN
  by_cases q1 : 1 ≤ n
  rotate_left
  · have qq1 := q1
    rw [decide_eq_false q1]
    go_enter Tryz.func49, Tryz.ntmps49
    go_wp2_with (first
      | (go_at_call 50; (with_reducible refine (KN.out _).mono ?_); rintro e v1 ⟨rfl, rfl⟩)
      | (go_at_call 96; (with_reducible refine (KC.out _).mono ?_); rintro e v2 ⟨rfl, rfl⟩))
    go_ret
    exact ⟨rfl, bnew2 _ _ _⟩
  by_cases q2 : n ≤ 32
  rotate_left
  · have qq2 := q2
    rw [decide_eq_true q1, decide_eq_false q2]
    go_enter Tryz.func49, Tryz.ntmps49
    go_wp2_with (first
      | (go_at_call 50; (with_reducible refine (KN.out _).mono ?_); rintro e v1 ⟨rfl, rfl⟩)
      | (go_at_call 96; (with_reducible refine (KC.out _).mono ?_); rintro e v2 ⟨rfl, rfl⟩))
    go_ret
    exact ⟨rfl, bnew2 _ _ _⟩
  by_cases q3 : ¬ ((a : Int) / 16777216 = 0)
  rotate_left
  · have qq3 : ((a : Int) / 16777216 != 0) = false := by simpa using q3
    rw [decide_eq_true q1, decide_eq_true q2, decide_eq_false q3]
    go_enter Tryz.func49, Tryz.ntmps49
    go_wp2_with (first
      | (go_at_call 50; (with_reducible refine (KN.out _).mono ?_); rintro e v1 ⟨rfl, rfl⟩)
      | (go_at_call 96; (with_reducible refine (KC.out _).mono ?_); rintro e v2 ⟨rfl, rfl⟩))
    go_ret
    exact ⟨rfl, bnew2 _ _ _⟩
  have qq3 : ((a : Int) / 16777216 != 0) = true := by simpa using q3
  cases cb with
  | true =>
    rw [decide_eq_true q1, decide_eq_true q2, decide_eq_true q3]
    go_enter Tryz.func49, Tryz.ntmps49
    go_wp2_with (first
      | (go_at_call 50; (with_reducible refine (KN.out _).mono ?_); rintro e v1 ⟨rfl, rfl⟩)
      | (go_at_call 96; (with_reducible refine (KC.out _).mono ?_); rintro e v2 ⟨rfl, rfl⟩))
    go_ret
    exact ⟨rfl, bnew2 _ _ _⟩
  | false =>
  by_cases q5 : 68 ≤ mtu
  rotate_left
  · have qq5 := q5
    rw [decide_eq_true q1, decide_eq_true q2, decide_eq_true q3, decide_eq_false q5]
    go_enter Tryz.func49, Tryz.ntmps49
    go_wp2_with (first
      | (go_at_call 50; (with_reducible refine (KN.out _).mono ?_); rintro e v1 ⟨rfl, rfl⟩)
      | (go_at_call 96; (with_reducible refine (KC.out _).mono ?_); rintro e v2 ⟨rfl, rfl⟩))
    go_ret
    exact ⟨rfl, bnew2 _ _ _⟩
  by_cases q6 : mtu ≤ 65535
  rotate_left
  · have qq6 := q6
    rw [decide_eq_true q1, decide_eq_true q2, decide_eq_true q3, decide_eq_true q5, decide_eq_false q6]
    go_enter Tryz.func49, Tryz.ntmps49
    go_wp2_with (first
      | (go_at_call 50; (with_reducible refine (KN.out _).mono ?_); rintro e v1 ⟨rfl, rfl⟩)
      | (go_at_call 96; (with_reducible refine (KC.out _).mono ?_); rintro e v2 ⟨rfl, rfl⟩))
    go_ret
    exact ⟨rfl, bnew2 _ _ _⟩
  by_cases q7 : 0 ≤ rpf
  rotate_left
  · have qq7 := q7
    rw [decide_eq_true q1, decide_eq_true q2, decide_eq_true q3, decide_eq_true q5, decide_eq_true q6, decide_eq_false q7]
    go_enter Tryz.func49, Tryz.ntmps49
    go_wp2_with (first
      | (go_at_call 50; (with_reducible refine (KN.out _).mono ?_); rintro e v1 ⟨rfl, rfl⟩)
      | (go_at_call 96; (with_reducible refine (KC.out _).mono ?_); rintro e v2 ⟨rfl, rfl⟩))
    go_ret
    exact ⟨rfl, bnew2 _ _ _⟩
  rw [decide_eq_true q1, decide_eq_true q2, decide_eq_true q3, decide_eq_true q5, decide_eq_true q6, decide_eq_true q7]
  go_enter Tryz.func49, Tryz.ntmps49
  go_wp2_with (first
    | (go_at_call 50; (with_reducible refine (KN.out _).mono ?_); rintro e v1 ⟨rfl, rfl⟩)
    | (go_at_call 96; (with_reducible refine (KC.out _).mono ?_); rintro e v2 ⟨rfl, rfl⟩))
  go_ret
  exact ⟨rfl, bnew2 _ _ _⟩
end Go.Proofs.YtnmbbnhgoedjgaaGreatDoor.Cg6

namespace Go.Proofs.YtnmbbnhgoedjgaaGreatDoor.Ch5
open Go Go.RowKit Go.Proofs.YtnmbbnhgoedjgaaGreatDoor.Ad0 Go.Proofs.YtnmbbnhgoedjgaaGreatDoor.Ad1 Go.Proofs.YtnmbbnhgoedjgaaGreatDoor.St2 Go.Proofs.YtnmbbnhgoedjgaaGreatDoor.St3 Go.Proofs.YtnmbbnhgoedjgaaGreatDoor.B1 Go.Proofs.YtnmbbnhgoedjgaaGreatDoor.St9 Go.Proofs.YtnmbbnhgoedjgaaGreatDoor.Ru0 Go.Proofs.YtnmbbnhgoedjgaaGreatDoor.Ru6 Go.Proofs.YtnmbbnhgoedjgaaGreatDoor.RuB Go.Proofs.YtnmbbnhgoedjgaaGreatDoor.RuC Go.Proofs.YtnmbbnhgoedjgaaGreatDoor.Ad2 Go.Proofs.YtnmbbnhgoedjgaaGreatDoor.RuQ Go.Proofs.YtnmbbnhgoedjgaaGreatDoor.Rw0 Go.Proofs.YtnmbbnhgoedjgaaGreatDoor.RuY Go.Proofs.YtnmbbnhgoedjgaaGreatDoor.Cf0 Go.Proofs.YtnmbbnhgoedjgaaGreatDoor.Cf4 Go.Proofs.YtnmbbnhgoedjgaaGreatDoor.Cf6 Go.Proofs.YtnmbbnhgoedjgaaGreatDoor.Cg0 Go.Proofs.YtnmbbnhgoedjgaaGreatDoor.Ch1
set_option linter.unusedVariables false
set_option linter.unusedSimpArgs false
def TableGot (W : World) (ws : List Wd) (e : Ending) (w' : World) : Prop := match tableOf ws with
  | some t => ∃ u, e = .returned (.tuple #[.agg #[.string ⟨t.name.toArray⟩, u], .bool true]) ∧ w'.ownsRow W.heap.size 43 2 u t.l.length (t.l.flatMap pfxL) ∧ Below W.heap.size W w'
  | none => e = .returned (.tuple #[.agg #[.string ⟨#[]⟩, .slice none 0 0], .bool false]) ∧ Below W.heap.size W w'
theorem got_none {W w' : World} {ws : List Wd} {e : Ending} (h : tableOf ws = none) (he : e = .returned (.tuple #[.agg #[.string ⟨#[]⟩, .slice none 0 0], .bool false])) (hb : Below W.heap.size W w') : TableGot W ws e w' := by
  unfold TableGot
  rw [h]
  exact ⟨he, hb⟩
/-- The result's box and the table's. -/
structure PrB (W : World) (nm : Wd) (u : Value) (w : World) : Prop where
  z : w.heap[W.heap.size]? = some (.cells #[.string ⟨#[]⟩, .slice none 0 0] 66 (0, 0))
  t : w.heap[W.heap.size + 1]? = some (.cells #[.string ⟨nm.toArray⟩, u] 66 (0, 0))
  low : Below W.heap.size W w
  lt : W.heap.size + 2 ≤ w.heap.size
theorem PrB.below {W w w' : World} {nm : Wd} {u : Value} (h : PrB W nm u w) (hb : Below w.heap.size w w') : PrB W nm u w' :=
  ⟨(hb.block _ (by have := h.lt; omega)).trans h.z, (hb.block _ (by have := h.lt; omega)).trans h.t, bstep h.low hb h.low.size, Nat.le_trans h.lt hb.size⟩
theorem PrB.low2 {W w w' : World} {nm : Wd} {u : Value} (h : PrB W nm u w) (hb : Below (W.heap.size + 2) w w') : PrB W nm u w' :=
  ⟨(hb.block _ (by omega)).trans h.z, (hb.block _ (by omega)).trans h.t, h.low.trans (hb.mono (by omega)), Nat.le_trans h.lt hb.size⟩
theorem PrB.put {W w : World} {nm : Wd} {u v : Value} (h : PrB W nm u w) : PrB W nm v (w.setCell ⟨W.heap.size + 1, 1, none⟩ v) :=
  ⟨(Below.heap_setCell w ⟨W.heap.size + 1, 1, none⟩ v _ (by simp)).trans h.z, Mem.set_row (k := 1) h.t, h.low.setCell (p := ⟨W.heap.size + 1, 1, none⟩) (by simp) v, by simpa using h.lt⟩
theorem own_set {w : World} {B : Nat} {e : TypeId} {s : Nat} {v : Value} {n : Nat} {xs : List Value} (h : w.ownsRow B e s v n xs) (g k : Nat) (hg : g < B) (u : Value) : (w.setCell ⟨g, k, none⟩ u).ownsRow B e s v n xs := by
  refine ⟨h.1, ?_⟩
  rcases h.2 with h' | ⟨g', cap, cur, e1, h1, h2, h3⟩
  · exact .inl h'
  · exact .inr ⟨g', cap, cur, e1, h1, (Below.heap_setCell w ⟨g, k, none⟩ u g' (by show g' ≠ g; omega)).trans h2, h3⟩
theorem own_sets {w : World} {B B' : Nat} {e : TypeId} {s : Nat} {v : Value} {n : Nat} {xs : List Value} (h : w.ownsRow B e s v n xs) (g : Nat) (l : List Value) (hg : g < B) (hB : B' ≤ B) : (w.setCells g 0 l).ownsRow B' e s v n xs := by
  refine ⟨h.1, ?_⟩
  rcases h.2 with h' | ⟨g', cap, cur, e1, h1, h2, h3⟩
  · exact .inl h'
  · exact .inr ⟨g', cap, cur, e1, by omega, (Mem.puts_other (by omega) l 0 w).trans h2, h3⟩
theorem short_none (ws : List Wd) (h : ws.length < 2) : tableOf ws = none := by
  match ws, h with
  | [], _ => rfl
  | [_], _ => rfl
  | _ :: _ :: _, h => simp at h; omega
set_option maxRecDepth 20000 in
set_option maxHeartbeats 4000000 in
theorem readTable_any (ws : List Wd) (hn : ws.length ≤ 1048576) (hs : ∀ x ∈ ws, x.length < 4294967281) (v : Value) (W : World) (h : Sl W v ws.length (ws.map fun w => .string ⟨w.toArray⟩)) (hl : LibOK W) :
    Calls Tryz.prog 69 #[v] W fun e w' => TableGot W ws e w' := by
  obtain ⟨A, cap, rfl, hcap, h⟩ := h
  have HS := Lib.hid h
  clear h
  by_cases h2 : ws.length < 2
  · have HZ := Lib.hid (short_none ws h2)
    have h2' : (ws.length : Int) < 2 := by omega
    go_enter Tryz.func69, Tryz.ntmps69
    go_wp2_with fail
    exact box_ret (heap_alloc_new W _) rfl rfl rfl Tryz.underlying66 (by kernel_rfl) rfl (got_none HZ.out rfl (bnew W _))
  obtain ⟨a, nm, ps, rfl⟩ : ∃ a nm ps, ws = a :: nm :: ps := by
    match ws, h2 with
    | [], h => simp at h
    | [_], h => simp at h
    | a :: nm :: ps, _ => exact ⟨a, nm, ps, rfl⟩
  have hn' : ps.length ≤ 1048576 := by simp at hn; omega
  rcases HS.out with ⟨h0, _⟩ | ⟨b, o, rfl, hbk, hr⟩
  · simp at h0
  have c1 : W.cell? ⟨b, o + 1, none⟩ = some (.string ⟨nm.toArray⟩) := hr 1 _ rfl
  have HR := Lib.hid hr
  have Hs := Lib.hid hs
  have KN := Lib.hid (fun W' => rname_any ⟨nm.toArray⟩ (by have := hs nm (by simp); simp [ByteArray.size]; omega) W')
  have e0 : (⟨nm.toArray⟩ : ByteArray).data.toList = nm := rfl
  rw [e0] at KN
  clear e0 hr hs HS hn
  have hcap2 : (ps.length : Int) + 2 ≤ cap := by simp at hcap; omega
  have c1' := (bnew W (.cells #[.string ⟨#[]⟩, .slice none 0 0] 66)).cell (p := ⟨b, o + 1, none⟩) hbk
  have hN : (a :: nm :: ps).length = ps.length + 2 := by simp
  generalize (a :: nm :: ps).length = N at hN hcap ⊢
  have hN2 : ¬ (N : Int) < 2 := by omega
  have hc1 : (1 : Int) < N := by omega
  have hN1 : N ≤ 1048580 := by omega
  have HN := Lib.hid hN
  clear hN hcap2 hn'
  cases hq : nameL nm with
  | false =>
    have HZ := Lib.hid (show tableOf (a :: nm :: ps) = none by simp [tableOf, hq])
    rw [hq] at KN
    go_enter Tryz.func69, Tryz.ntmps69
    go_wp2_with (go_at_call 50; (with_reducible refine (KN.out _).mono ?_); rintro e w1 ⟨rfl, rfl⟩)
    exact box_ret (heap_alloc_new W _) rfl rfl rfl Tryz.underlying66 (by kernel_rfl) rfl (got_none HZ.out rfl (bnew W _))
  | true =>
    rw [hq] at KN
    go_enter Tryz.func69, Tryz.ntmps69
    go_wp2_with (go_at_call 50; (with_reducible refine (KN.out _).mono ?_); rintro e w1 ⟨rfl, rfl⟩)
    have HP : Hid (PrB W nm (.slice none 0 0) ((W.alloc (.cells #[.string ⟨#[]⟩, .slice none 0 0] 66)).alloc (.cells #[.string ⟨nm.toArray⟩, .slice none 0 0] 66))) :=
      ⟨heap_alloc2_old W _ _, heap_alloc2_new W _ _, bnew2 W _ _, by simp⟩
    go_loopw [5] (fun s5 wr => ∃ (k : Nat) (l : List Pfx) (u : Value), 2 ≤ k ∧ k ≤ N ∧ s5 = .int .i64 k ∧ prefsOf (ps.take (k - 2)) = some l ∧ wr.ownsRow (W.heap.size + 2) 43 2 u l.length (l.flatMap pfxL) ∧ PrB W nm u wr) (fun s5 _ => N - (intOf s5).toNat)
    case atStart => exact ⟨2, [], _, by omega, by omega, rfl, rfl, World.ownsRow_nil _ _ _ _, HP.out⟩
    case round =>
      obtain ⟨k, l, u, hk2, hkl, rfl, hq', ho, hp⟩ := hrel
      have HQ := Lib.hid hq'
      have HOw := Lib.hid ho
      have HP := Lib.hid hp
      have hll : l.length ≤ 1048580 := by have := prefs_len _ _ hq'; rw [List.length_take] at this; have := HN.out; omega
      clear hq' ho
      by_cases hlt : k < N
      · have hlt' : (k : Int) < N := by omega
        have hk63 : (k : Int) + 1 ≤ 9223372036854775807 := by omega
        obtain ⟨x, hx⟩ : ∃ x, ps[k - 2]? = some x := ⟨_, List.getElem?_eq_getElem (by have := HN.out; omega)⟩
        have hx' : (a :: nm :: ps)[k]? = some x := by
          obtain ⟨j, rfl⟩ : ∃ j, k = j + 2 := ⟨k - 2, by omega⟩
          simpa using hx
        have c0 : wr.cell? ⟨b, o + k, none⟩ = some (.string ⟨x.toArray⟩) := (hp.low.cell (by exact hbk)).trans (HR.out k _ (by rw [List.getElem?_map, hx']; rfl))
        have HTk := Lib.hid (show prefsOf (ps.take (k + 1 - 2)) = (prefOK x).map fun p => l ++ [p] by
          rw [show k + 1 - 2 = (k - 2) + 1 by omega, List.take_add_one, hx, Option.toList_some, prefs_snoc, HQ.out]
          rfl)
        have HNo : Hid (prefOK x = none → tableOf (a :: nm :: ps) = none) := fun e => by
          have : prefsOf ps = none := by
            rw [← List.take_append_drop (k + 1 - 2) ps]
            exact prefs_none _ _ (by rw [HTk.out, e]; rfl)
          simp [tableOf, this]
        have KP := Lib.hid (fun W' => rpref_any ⟨x.toArray⟩ (by have := Hs.out x (List.mem_of_getElem? hx'); simp [ByteArray.size]; omega) W')
        have e0 : (⟨x.toArray⟩ : ByteArray).data.toList = x := rfl
        rw [e0] at KP
        clear e0 hx hx'
        cases hp' : prefL x with
        | none =>
          have HZ := Lib.hid (HNo.out (by unfold prefOK; rw [hp']; rfl))
          rw [hp'] at KP
          go_wp2_with (first
            | (go_at_call 67; (with_reducible refine (KP.out _).mono ?_); rintro e w1 ⟨rfl, hb1⟩; have HP := Lib.hid (HP.out.below hb1); have HPa := Lib.hid (HP.out.below (bnew w1 (.cells #[.int .u32 0, .int .i64 0] 43))); unfold prefV; clear hb1)
            | ((with_reducible refine Mem.store_part W.heap.size 0 #[Value.string ⟨#[]⟩, .slice none 0 0] ?_ ?_ HPa.out.z ?_ ?_ ?_ ?_ ?_); rfl; rfl; exact Nat.le_of_ble_eq_true rfl; kernel_rfl; kernel_rfl; rfl))
          exact box_ret (Mem.puts_row _ 0 HPa.out.z) rfl rfl rfl Tryz.underlying66 (by kernel_rfl) rfl (got_none HZ.out rfl (Mem.puts_below HPa.out.low (Nat.le_refl _) _ 0))
        | some p =>
          have hok := pref_key x p hp'
          have KI := Lib.hid (fun W' => ris_any p hok W')
          rw [hp'] at KP
          cases hf : isF p with
          | false =>
            have HZ := Lib.hid (HNo.out (by unfold prefOK; rw [hp']; simp [hf]))
            rw [hf] at KI
            go_wp2_with (first
              | (go_at_call 67; (with_reducible refine (KP.out _).mono ?_); rintro e w1 ⟨rfl, hb1⟩; have HOw := Lib.hid ((own_below HOw.out hb1).alloc (.cells #[.int .u32 (p.addr : Nat), .int .i64 p.len] 43)); have HP := Lib.hid (HP.out.below hb1); have HPa := Lib.hid (HP.out.below (bnew w1 (.cells #[.int .u32 (p.addr : Nat), .int .i64 p.len] 43))); have HRp := Lib.hid (heap_alloc_new w1 (.cells #[.int .u32 (p.addr : Nat), .int .i64 p.len] 43)); unfold prefV; clear hb1)
              | (go_at_call 68; (with_reducible refine (KI.out _).mono ?_); rintro e w2 ⟨rfl, hb2⟩; have HOw := Lib.hid (own_below HOw.out hb2); have HRp := row_step HRp hb2; have HPb := Lib.hid (HPa.out.below hb2); have g0 := cell_of_row _ _ 0 _ _ _ HRp.out; have g1 := cell_of_row _ _ 1 _ _ _ HRp.out; have g2 := cell_of_row _ _ 1 _ _ _ HPb.out.t; clear hb2)
              | ((with_reducible refine Mem.store_part W.heap.size 0 #[Value.string ⟨#[]⟩, .slice none 0 0] ?_ ?_ HPb.out.z ?_ ?_ ?_ ?_ ?_); rfl; rfl; exact Nat.le_of_ble_eq_true rfl; kernel_rfl; kernel_rfl; rfl))
            exact box_ret (Mem.puts_row _ 0 HPb.out.z) rfl rfl rfl Tryz.underlying66 (by kernel_rfl) rfl (got_none HZ.out rfl (Mem.puts_below HPb.out.low (Nat.le_refl _) _ 0))
          | true =>
            have HM := Lib.hid (show prefsOf (ps.take (k + 1 - 2)) = some (l ++ [p]) by rw [HTk.out]; unfold prefOK; rw [hp']; simp [hf])
            rw [hf] at KI
            go_wp2_with (first
              | (go_at_call 67; (with_reducible refine (KP.out _).mono ?_); rintro e w1 ⟨rfl, hb1⟩; have HOw := Lib.hid ((own_below HOw.out hb1).alloc (.cells #[.int .u32 (p.addr : Nat), .int .i64 p.len] 43)); have HP := Lib.hid (HP.out.below hb1); have HPa := Lib.hid (HP.out.below (bnew w1 (.cells #[.int .u32 (p.addr : Nat), .int .i64 p.len] 43))); have HRp := Lib.hid (heap_alloc_new w1 (.cells #[.int .u32 (p.addr : Nat), .int .i64 p.len] 43)); unfold prefV; clear hb1)
              | (go_at_call 68; (with_reducible refine (KI.out _).mono ?_); rintro e w2 ⟨rfl, hb2⟩; have HOw := Lib.hid (own_below HOw.out hb2); have HRp := row_step HRp hb2; have HPb := Lib.hid (HPa.out.below hb2); have g0 := cell_of_row _ _ 0 _ _ _ HRp.out; have g1 := cell_of_row _ _ 1 _ _ _ HRp.out; have g2 := cell_of_row _ _ 1 _ _ _ HPb.out.t; clear hb2)
              | (at_builtin; refine wpList_append_row rfl _ _ 23 rfl (W.heap.size + 2) 43 (.agg #[.int .u32 0, .int .i64 0]) 2 16 (by decide) Tryz.underlying23 info2p rfl _ _ _ rfl HOw.out #[.int .u32 (p.addr : Nat), .int .i64 p.len] rfl (by intro y hy; simp at hy; rcases hy with rfl | rfl <;> rfl) rfl (by simp only [maxLen]; omega) (by omega) HPb.out.lt ?_; intro v' w' ho hb hz; obtain ⟨A', cp, rfl, -⟩ := own_sl ho; have HO2 := Lib.hid ho; have HPc := Lib.hid (HPb.out.low2 hb); obtain ⟨-, t1, -, f1⟩ := box2 HPc.out.t; clear ho hb hz))
            go_roundw
            case rel => exact ⟨k + 1, l ++ [p], _, by omega, by omega, by go_num, HM.out, by rw [List.length_append, List.flatMap_append]; simpa [pfxL] using own_set HO2.out (W.heap.size + 1) 1 (by omega) _, HPc.out.put⟩
            case measure => simp only [intOf]; go_num
      · have hge : ¬ (k : Int) < N := by omega
        have HZ := Lib.hid (show tableOf (a :: nm :: ps) = some ⟨nm, l⟩ by
          have h := HQ.out
          rw [show k - 2 = ps.length by have := HN.out; omega, List.take_length] at h
          simp [tableOf, hq, h])
        have hz := HP.out.z
        have ht := HP.out.t
        have hone : (#[Value.string ⟨nm.toArray⟩, u] : Array Value).all (·.oneCell') = true := by
          obtain ⟨A', cp, e, -⟩ := own_sl HOw.out
          rw [e, List.all_toArray, List.all_cons, List.all_cons]
          rfl
        go_wp2_with (first
          | ((with_reducible refine Mem.load_row (W.heap.size + 1) ?_ ht Tryz.underlying66 (by kernel_rfl) ?_ ?_); rfl; rfl)
          | ((with_reducible refine Mem.store_part W.heap.size 0 #[Value.string ⟨nm.toArray⟩, u] ?_ ?_ hz ?_ ?_ ?_ ?_ ?_); rfl; rfl; exact Nat.le_of_ble_eq_true rfl; kernel_rfl; exact hone; rfl))
        refine box_ret (Mem.puts_row _ 0 hz) rfl rfl rfl Tryz.underlying66 (by kernel_rfl) rfl ?_
        unfold TableGot
        rw [HZ.out]
        exact ⟨u, rfl, own_sets HOw.out W.heap.size _ (by omega) (by omega), Mem.puts_below HP.out.low (Nat.le_refl _) _ 0⟩
end Go.Proofs.YtnmbbnhgoedjgaaGreatDoor.Ch5

