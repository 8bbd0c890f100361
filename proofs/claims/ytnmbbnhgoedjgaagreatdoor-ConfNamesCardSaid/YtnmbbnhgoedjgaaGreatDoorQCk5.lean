/- The law ConfBack, walked. -/
import Derived.Test.YtnmbbnhgoedjgaaGreatDoorQCk4
import Derived.Test.YtnmbbnhgoedjgaaGreatDoorQCf1
import Derived.Test.YtnmbbnhgoedjgaaGreatDoorQRuU
namespace Go.Proofs.YtnmbbnhgoedjgaaGreatDoor.Ck5
open Go Go.RowKit Go.Proofs.YtnmbbnhgoedjgaaGreatDoor.Ad0 Go.Proofs.YtnmbbnhgoedjgaaGreatDoor.Ad1 Go.Proofs.YtnmbbnhgoedjgaaGreatDoor.St2 Go.Proofs.YtnmbbnhgoedjgaaGreatDoor.Ru6 Go.Proofs.YtnmbbnhgoedjgaaGreatDoor.RuB Go.Proofs.YtnmbbnhgoedjgaaGreatDoor.RuC Go.Proofs.YtnmbbnhgoedjgaaGreatDoor.RuY Go.Proofs.YtnmbbnhgoedjgaaGreatDoor.RuYa Go.Proofs.YtnmbbnhgoedjgaaGreatDoor.RuZ Go.Proofs.YtnmbbnhgoedjgaaGreatDoor.Cf0 Go.Proofs.YtnmbbnhgoedjgaaGreatDoor.Cf4 Go.Proofs.YtnmbbnhgoedjgaaGreatDoor.Cg0 Go.Proofs.YtnmbbnhgoedjgaaGreatDoor.CkO Go.Proofs.YtnmbbnhgoedjgaaGreatDoor.RuX Go.Proofs.YtnmbbnhgoedjgaaGreatDoor.CgM Go.Proofs.YtnmbbnhgoedjgaaGreatDoor.Cg5 Go.Proofs.YtnmbbnhgoedjgaaGreatDoor.Ch4 Go.Proofs.YtnmbbnhgoedjgaaGreatDoor.Ch7 Go.Proofs.YtnmbbnhgoedjgaaGreatDoor.CgL Go.Proofs.YtnmbbnhgoedjgaaGreatDoor.Ck1 Go.Proofs.YtnmbbnhgoedjgaaGreatDoor.Ck2 Go.Proofs.YtnmbbnhgoedjgaaGreatDoor.Cf1 Go.Proofs.YtnmbbnhgoedjgaaGreatDoor.Cg2 Go.Proofs.YtnmbbnhgoedjgaaGreatDoor.Cg9 Go.Proofs.YtnmbbnhgoedjgaaGreatDoor.CgC Go.Proofs.YtnmbbnhgoedjgaaGreatDoor.Chp Go.Proofs.YtnmbbnhgoedjgaaGreatDoor.Ch5 Go.Proofs.YtnmbbnhgoedjgaaGreatDoor.RuN Go.Proofs.YtnmbbnhgoedjgaaGreatDoor.RuO Go.Proofs.YtnmbbnhgoedjgaaGreatDoor.Cg7 Go.Proofs.YtnmbbnhgoedjgaaGreatDoor.CgW Go.Proofs.YtnmbbnhgoedjgaaGreatDoor.CgV Go.Proofs.YtnmbbnhgoedjgaaGreatDoor.CgT Go.Proofs.YtnmbbnhgoedjgaaGreatDoor.CgU Go.Proofs.YtnmbbnhgoedjgaaGreatDoor.Ck0 Go.Proofs.YtnmbbnhgoedjgaaGreatDoor.Cf2
set_option linter.unusedVariables false
set_option linter.unusedSimpArgs false
set_option maxRecDepth 100000 in
set_option maxHeartbeats 8000000 in
theorem back_walk (HI : IsIfaceSaid) (HPr : PrintedSaid) (KPR : RPrintSaid) (c : ConfM) (v0 v1 v2 v3 : Value) (ts : List (NamedM × Value)) (W : World) (h : ConfIn W v0 v1 v2 v3 ts c) (hw : WideC c) (hl : LibOK W) :
    Calls Tryz.prog 4 #[.agg (confC v0 v1 v2 v3 c)] W fun e w' => e = .returned (.bool true) ∧ Below W.heap.size W w' := by
  have KH := Lib.hid (fun W' (hb : Below W.heap.size W W') => heavy_any c v0 v1 v2 v3 ts W' (h.below hb) hw)
  have HN6 := Lib.hid (Cg2.info6 v0 v1 v2 v3 c)
  have HP : Hid (PrT W (confC v0 v1 v2 v3 c) (W.alloc (.cells (confC v0 v1 v2 v3 c) 27))) := ⟨heap_alloc_new W _, bnew W _, by simp⟩
  have K1 := Lib.hid (fun (hf : FitC c) W' (hb : Below W.heap.size W W') => print_conf HI HPr c v0 v1 v2 v3 ts W' (h.below hb) hf (hl.below hb))
  have K6 := Lib.hid (fun (hf : FitC c) W' (hb : Below W.heap.size W W') => rcheck_conf KPR c v0 v1 v2 v3 ts W' (h.below hb) hf (hl.below hb))
  have K8 := Lib.hid (fun (hf : FitC c) W' (hb : Below W.heap.size W W') u0 u1 u2 u3 us (h' : ConfIn W' u0 u1 u2 u3 us c) => by
    have h1 := rsame_conf c c v0 v1 v2 v3 u0 u1 u2 u3 ts us W' (h.below hb) h' hf hf
    rw [show decide (c = c) = true by simp] at h1
    exact h1)
  have K9 := Lib.hid (fun W' (hb : Below W.heap.size W W') => known_any HI HPr W' (hl.below hb))
  have HF := Lib.hid (light_fit c hw)
  unfold checkV at K6
  have KP := Lib.hid (fun (hz : (checkC c).1 = 0) W' (hb : Below W.heap.size W W') => by
    have h1 := parse_any HI HPr (textC c) (isC_facts c (check_none c hz).2).text W' (hl.below hb)
    unfold ParseGot at h1
    rw [text_back c (check_none c hz).2 hw.ok hz] at h1
    exact h1)
  have HZ := Lib.hid (check_none c)
  clear h hw hl
  generalize confC v0 v1 v2 v3 c = cs at *
  cases hx : Ck1.heavyF c with
  | true =>
    rw [hx] at KH
    go_enter Tryz.func4, Tryz.ntmps4
    go_wp2_with (first
      | ((with_reducible refine Mem.load_row W.heap.size ?_ HP.out.box Tryz.underlying27 HN6.out ?_ ?_); rfl; rfl)
      | (go_at_call 13; (with_reducible refine (KH.out _ HP.out.low).mono ?_); rintro e w1 ⟨rfl, hb1⟩; have HP := Lib.hid (HP.out.below hb1); clear hb1))
    go_ret
    exact ⟨rfl, HP.out.low⟩
  | false =>
  have HF := Lib.hid (HF.out hx)
  rw [hx] at KH
  have K6 := Lib.hid (K6.out HF.out)
  cases hz : ((checkC c).1 != 0) with
  | true =>
    generalize (checkC c).1 = ce at *
    generalize (⟨(checkC c).2.toArray⟩ : ByteArray) = cz at *
    go_enter Tryz.func4, Tryz.ntmps4
    go_wp2_with (first
      | ((with_reducible refine Mem.load_row W.heap.size ?_ HP.out.box Tryz.underlying27 HN6.out ?_ ?_); rfl; rfl)
      | (go_at_call 13; (with_reducible refine (KH.out _ HP.out.low).mono ?_); rintro e w1 ⟨rfl, hb1⟩; have HP := Lib.hid (HP.out.below hb1); clear hb1)
      | (go_at_call 14; (with_reducible refine (K6.out _ HP.out.low).mono ?_); rintro e w2 ⟨rfl, hb1⟩; have HP := Lib.hid (HP.out.below hb1); clear hb1)
      | (go_at_call 12; (with_reducible refine (K9.out _ HP.out.low).mono ?_); rintro e w9 ⟨rfl, hb1⟩; have HP := Lib.hid (HP.out.below hb1); clear hb1))
    go_ret
    exact ⟨rfl, HP.out.low⟩
  | false =>
  have hz : (checkC c).1 = 0 := by simpa using hz
  have HZ := HZ.out hz
  have KP := Lib.hid (KP.out hz)
  have K1 := Lib.hid (K1.out HF.out)
  have K8 := Lib.hid (K8.out HF.out)
  rw [hz] at K6
  rw [if_pos HZ.2] at K1
  generalize (⟨(checkC c).2.toArray⟩ : ByteArray) = cz at *
  generalize (⟨(textC c).toArray⟩ : ByteArray) = tx at *
  clear HZ hz
  go_enter Tryz.func4, Tryz.ntmps4
  go_wp2_with (first
    | ((with_reducible refine Mem.load_row W.heap.size ?_ HP.out.box Tryz.underlying27 HN6.out ?_ ?_); rfl; rfl)
    | (go_at_call 13; (with_reducible refine (KH.out _ HP.out.low).mono ?_); rintro e w1 ⟨rfl, hb1⟩; have HP := Lib.hid (HP.out.below hb1); clear hb1)
    | (go_at_call 14; (with_reducible refine (K6.out _ HP.out.low).mono ?_); rintro e w2 ⟨rfl, hb1⟩; have HP := Lib.hid (HP.out.below hb1); clear hb1)
    | (go_at_call 15; (with_reducible refine (K1.out _ HP.out.low).mono ?_); rintro e w3 ⟨rfl, hb1⟩; have HP := Lib.hid (HP.out.below hb1); clear hb1)
    | (go_at_call 9; (with_reducible refine (KP.out _ HP.out.low).mono ?_); rintro e w4 ⟨u0, u1, u2, u3, us, rfl, hc, hb1⟩; have HP := Lib.hid (HP.out.below hb1); have HCu := Lib.hid hc; have HOu := Lib.hid (conf_one hc c); have HIu := Lib.hid (Cg2.info6 u0 u1 u2 u3 c); clear hc hb1)
    | ((with_reducible refine store_new (confC u0 u1 u2 u3 c) ?_ ?_ ?_ HIu.out HOu.out ?_ ?_); rfl; rfl; rfl; rfl; intro V hV hbV hlV; have HP := Lib.hid (HP.out.below hbV); have HCu := Lib.hid (HCu.out.below hbV); have HRu := Lib.hid hV; clear hV hbV hlV)
    | ((with_reducible refine Mem.load_row w4.heap.size ?_ HRu.out Tryz.underlying27 HIu.out ?_ ?_); rfl; rfl)
    | (go_at_call 11; (with_reducible refine (K8.out _ HP.out.low _ _ _ _ _ HCu.out).mono ?_); rintro e w8 ⟨rfl, hb1⟩; have HP := Lib.hid (HP.out.below hb1); clear hb1)
    | (go_at_call 12; (with_reducible refine (K9.out _ HP.out.low).mono ?_); rintro e w9 ⟨rfl, hb1⟩; have HP := Lib.hid (HP.out.below hb1); clear hb1))
  go_ret
  exact ⟨rfl, HP.out.low⟩
end Go.Proofs.YtnmbbnhgoedjgaaGreatDoor.Ck5

