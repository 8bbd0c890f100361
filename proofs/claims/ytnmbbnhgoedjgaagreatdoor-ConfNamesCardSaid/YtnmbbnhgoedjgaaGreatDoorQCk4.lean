/- The law ConfPrints, walked. -/
import Derived.Test.YtnmbbnhgoedjgaaGreatDoorQCk2
import Derived.Test.YtnmbbnhgoedjgaaGreatDoorQCk0
namespace Go.Proofs.YtnmbbnhgoedjgaaGreatDoor.Ck4
open Go Go.RowKit Go.Proofs.YtnmbbnhgoedjgaaGreatDoor.St2 Go.Proofs.YtnmbbnhgoedjgaaGreatDoor.Ru0 Go.Proofs.YtnmbbnhgoedjgaaGreatDoor.Ru6 Go.Proofs.YtnmbbnhgoedjgaaGreatDoor.RuB Go.Proofs.YtnmbbnhgoedjgaaGreatDoor.RuC Go.Proofs.YtnmbbnhgoedjgaaGreatDoor.RuE Go.Proofs.YtnmbbnhgoedjgaaGreatDoor.RuY Go.Proofs.YtnmbbnhgoedjgaaGreatDoor.RuYa Go.Proofs.YtnmbbnhgoedjgaaGreatDoor.RuZ Go.Proofs.YtnmbbnhgoedjgaaGreatDoor.Cf0 Go.Proofs.YtnmbbnhgoedjgaaGreatDoor.Cf4 Go.Proofs.YtnmbbnhgoedjgaaGreatDoor.Cf5 Go.Proofs.YtnmbbnhgoedjgaaGreatDoor.Cg0 Go.Proofs.YtnmbbnhgoedjgaaGreatDoor.CkO Go.Proofs.YtnmbbnhgoedjgaaGreatDoor.CgQ Go.Proofs.YtnmbbnhgoedjgaaGreatDoor.RuX Go.Proofs.YtnmbbnhgoedjgaaGreatDoor.Cg5 Go.Proofs.YtnmbbnhgoedjgaaGreatDoor.Ch4 Go.Proofs.YtnmbbnhgoedjgaaGreatDoor.Ch7 Go.Proofs.YtnmbbnhgoedjgaaGreatDoor.CgB Go.Proofs.YtnmbbnhgoedjgaaGreatDoor.CgL Go.Proofs.YtnmbbnhgoedjgaaGreatDoor.Ck1 Go.Proofs.YtnmbbnhgoedjgaaGreatDoor.Ck2 Go.Proofs.YtnmbbnhgoedjgaaGreatDoor.Cf1 Go.Proofs.YtnmbbnhgoedjgaaGreatDoor.Cg2 Go.Proofs.YtnmbbnhgoedjgaaGreatDoor.Cf8 Go.Proofs.YtnmbbnhgoedjgaaGreatDoor.Cg9 Go.Proofs.YtnmbbnhgoedjgaaGreatDoor.CgC Go.Proofs.YtnmbbnhgoedjgaaGreatDoor.Chp Go.Proofs.YtnmbbnhgoedjgaaGreatDoor.Ch5 Go.Proofs.YtnmbbnhgoedjgaaGreatDoor.RuN Go.Proofs.YtnmbbnhgoedjgaaGreatDoor.RuO Go.Proofs.YtnmbbnhgoedjgaaGreatDoor.Cg7 Go.Proofs.YtnmbbnhgoedjgaaGreatDoor.Cf9 Go.Proofs.YtnmbbnhgoedjgaaGreatDoor.CgW Go.Proofs.YtnmbbnhgoedjgaaGreatDoor.CgV Go.Proofs.YtnmbbnhgoedjgaaGreatDoor.CgT Go.Proofs.YtnmbbnhgoedjgaaGreatDoor.CgU Go.Proofs.YtnmbbnhgoedjgaaGreatDoor.Ck0
set_option linter.unusedVariables false
set_option linter.unusedSimpArgs false
/-- A whole box is read. -/
theorem load_box {P : Program} {S : World → Prop} {a : Act} {K : Act → Prop} {dst : Option Tmp} {type : TypeId} {pos : String} {after : Array Edge} {guard : Option (Nat × Bool)} {ty : TypeId} {x : Operand}
    (g : Nat) (hx : a.eval x = .pointer (some ⟨g, 0, .none⟩)) {cs : Array Value} {T : TypeId} {fs : Array Field} (hg : ∀ p : In S, p.val.heap[g]? = some (.cells cs T (0, 0)))
    (hu : P.underlying ty = some (.struct fs)) (hi : (P.info? ty).map (·.size) = some cs.size)
    (h : K (a.put dst (.agg cs))) : Oper.quiet P { dst := dst, op := .load ty x, type := type, pos := pos, after := after, guard := guard } a (fun w' => ∃ p : In S, w' = p.val) K :=
  load_in g 0 hx (cs := cs.toList) (fun p => Mem.range_part (n := cs.size) (hg p) (by simp)) hu hi h
theorem if_name (x : IfaceM) : ∃ v1 v2 v3 v4, ifL x = [.string ⟨x.name.toArray⟩, v1, v2, v3, v4] := ⟨_, _, _, _, rfl⟩
set_option maxRecDepth 100000 in
set_option maxHeartbeats 8000000 in
theorem prints_walk (HI : IsIfaceSaid) (HPr : PrintedSaid) (KPR : RPrintSaid) (c d : ConfM) (v0 v1 v2 v3 u0 u1 u2 u3 : Value) (ts us : List (NamedM × Value)) (nm : Wd) (W : World) (h : ConfIn W v0 v1 v2 v3 ts c) (h' : ConfIn W u0 u1 u2 u3 us d) (hw : WideC c) (hw' : WideC d) (hl : LibOK W) :
    Calls Tryz.prog 8 #[.agg (confC v0 v1 v2 v3 c), .agg (confC u0 u1 u2 u3 d), .string ⟨nm.toArray⟩] W fun e w' => e = .returned (.bool true) ∧ Below W.heap.size W w' := by
  have KH1 := Lib.hid (fun W' (hb : Below W.heap.size W W') => heavy_any c v0 v1 v2 v3 ts W' (h.below hb) hw)
  have KH2 := Lib.hid (fun W' (hb : Below W.heap.size W W') => heavy_any d u0 u1 u2 u3 us W' (h'.below hb) hw')
  have HN6 := Lib.hid (Cg2.info6 v0 v1 v2 v3 c)
  have HN7 := Lib.hid (Cg2.info6 u0 u1 u2 u3 d)
  have HP := Lib.hid (PrD.new W (confC v0 v1 v2 v3 c) (confC u0 u1 u2 u3 d))
  have hni := hw.ni
  have KN1 := Lib.hid (fun W' (hb : Below W.heap.size W W') => confIface_any ifL (·.name) if_name c.ifaces (by omega) v0 v1 v2 v3 (.int .i64 c.flows) (.int .i64 c.errors) nm W' (h.ifaces.below hb))
  have KN2 := Lib.hid (fun W' (hb : Below W.heap.size W W') => refIface_any ifL (·.name) if_name c.ifaces (by omega) v0 v1 v2 v3 (.int .i64 c.flows) (.int .i64 c.errors) nm W' (h.ifaces.below hb))
  have KN1 := Lib.hid (show ∀ W' (hb : Below W.heap.size W W'), Calls Tryz.prog 22 #[.agg (confC v0 v1 v2 v3 c), .string ⟨nm.toArray⟩] W' _ from KN1.out)
  have KN2 := Lib.hid (show ∀ W' (hb : Below W.heap.size W W'), Calls Tryz.prog 23 #[.agg (confC v0 v1 v2 v3 c), .string ⟨nm.toArray⟩] W' _ from KN2.out)
  have K1 := Lib.hid (fun (hf : FitC c) W' (hb : Below W.heap.size W W') => print_conf HI HPr c v0 v1 v2 v3 ts W' (h.below hb) hf (hl.below hb))
  have K2 := Lib.hid (fun (hf : FitC c) W' (hb : Below W.heap.size W W') => rprint_conf KPR c v0 v1 v2 v3 ts W' (h.below hb) hf (hl.below hb))
  have K3 := Lib.hid (fun (hf : FitC c) W' (hb : Below W.heap.size W W') => is_conf HI HPr c v0 v1 v2 v3 ts W' (h.below hb) hf (hl.below hb))
  have K4 := Lib.hid (fun (hf : FitC c) W' (hb : Below W.heap.size W W') => ris_conf KPR c v0 v1 v2 v3 ts W' (h.below hb) hf (hl.below hb))
  have K5 := Lib.hid (fun (hf : FitC c) W' (hb : Below W.heap.size W W') => check_conf HI HPr c v0 v1 v2 v3 ts W' (h.below hb) hf (hl.below hb))
  have K6 := Lib.hid (fun (hf : FitC c) W' (hb : Below W.heap.size W W') => rcheck_conf KPR c v0 v1 v2 v3 ts W' (h.below hb) hf (hl.below hb))
  have K7 := Lib.hid (fun (hf : FitC c) (hf' : FitC d) W' (hb : Below W.heap.size W W') => same_conf c d v0 v1 v2 v3 u0 u1 u2 u3 ts us W' (h.below hb) (h'.below hb) hf hf')
  have K8 := Lib.hid (fun (hf : FitC c) (hf' : FitC d) W' (hb : Below W.heap.size W W') => rsame_conf c d v0 v1 v2 v3 u0 u1 u2 u3 ts us W' (h.below hb) (h'.below hb) hf hf')
  have K9 := Lib.hid (fun W' (hb : Below W.heap.size W W') => known_any HI HPr W' (hl.below hb))
  have HF := Lib.hid (light_fit c hw)
  have HF' := Lib.hid (light_fit d hw')
  unfold checkV at K5 K6
  clear h h' hw hw' hl hni
  generalize confC v0 v1 v2 v3 c = cs at *
  generalize confC u0 u1 u2 u3 d = ds at *
  generalize (⟨nm.toArray⟩ : ByteArray) = nb at *
  generalize (checkC c).1 = ce at *
  generalize (⟨(checkC c).2.toArray⟩ : ByteArray) = cz at *
  generalize (⟨(if isC c then textC c else []).toArray⟩ : ByteArray) = tx at *
  generalize isC c = ic at *
  generalize decide (c = d) = cd at *
  generalize idxF (fun x => x.name == nm) c.ifaces = ix at *
  cases hx : Ck1.heavyF c with
  | true =>
    rw [hx] at KH1
    go_enter Tryz.func8, Tryz.ntmps8
    go_wp2_with (first
      | ((with_reducible refine Mem.load_row W.heap.size ?_ HP.out.one Tryz.underlying27 HN6.out ?_ ?_); rfl; rfl)
      | ((with_reducible refine Mem.load_row (W.heap.size + 1) ?_ HP.out.two Tryz.underlying27 HN7.out ?_ ?_); rfl; rfl)
      | (go_at_call 13; (with_reducible refine (KH1.out _ HP.out.low).mono ?_); rintro e w1 ⟨rfl, hb1⟩; have HP := Lib.hid (HP.out.below hb1); clear hb1)
      | (go_at_call 13; (with_reducible refine (KH2.out _ HP.out.low).mono ?_); rintro e w2 ⟨rfl, hb1⟩; have HP := Lib.hid (HP.out.below hb1); clear hb1)
      | (go_at_call 16; (with_reducible refine (K5.out _ HP.out.low).mono ?_); rintro e w3 ⟨rfl, hb1⟩; have HP := Lib.hid (HP.out.below hb1); clear hb1)
      | (go_at_call 14; (with_reducible refine (K6.out _ HP.out.low).mono ?_); rintro e w4 ⟨rfl, hb1⟩; have HP := Lib.hid (HP.out.below hb1); clear hb1))
    go_ret
    exact ⟨rfl, HP.out.low⟩
  | false =>
  have HF := Lib.hid (HF.out hx)
  rw [hx] at KH1
  cases hy : Ck1.heavyF d with
  | true =>
    rw [hy] at KH2
    go_enter Tryz.func8, Tryz.ntmps8
    go_wp2_with (first
      | ((with_reducible refine Mem.load_row W.heap.size ?_ HP.out.one Tryz.underlying27 HN6.out ?_ ?_); rfl; rfl)
      | ((with_reducible refine Mem.load_row (W.heap.size + 1) ?_ HP.out.two Tryz.underlying27 HN7.out ?_ ?_); rfl; rfl)
      | (go_at_call 13; (with_reducible refine (KH1.out _ HP.out.low).mono ?_); rintro e w1 ⟨rfl, hb1⟩; have HP := Lib.hid (HP.out.below hb1); clear hb1)
      | (go_at_call 13; (with_reducible refine (KH2.out _ HP.out.low).mono ?_); rintro e w2 ⟨rfl, hb1⟩; have HP := Lib.hid (HP.out.below hb1); clear hb1)
      | (go_at_call 16; (with_reducible refine (K5.out _ HP.out.low).mono ?_); rintro e w3 ⟨rfl, hb1⟩; have HP := Lib.hid (HP.out.below hb1); clear hb1)
      | (go_at_call 14; (with_reducible refine (K6.out _ HP.out.low).mono ?_); rintro e w4 ⟨rfl, hb1⟩; have HP := Lib.hid (HP.out.below hb1); clear hb1))
    go_ret
    exact ⟨rfl, HP.out.low⟩
  | false =>
  have HF' := Lib.hid (HF'.out hy)
  rw [hy] at KH2
  by_cases hn : (100 : Int) < nb.size
  · have hn' := hn
    go_enter Tryz.func8, Tryz.ntmps8
    go_wp2_with (first
      | ((with_reducible refine Mem.load_row W.heap.size ?_ HP.out.one Tryz.underlying27 HN6.out ?_ ?_); rfl; rfl)
      | ((with_reducible refine Mem.load_row (W.heap.size + 1) ?_ HP.out.two Tryz.underlying27 HN7.out ?_ ?_); rfl; rfl)
      | (go_at_call 13; (with_reducible refine (KH1.out _ HP.out.low).mono ?_); rintro e w1 ⟨rfl, hb1⟩; have HP := Lib.hid (HP.out.below hb1); clear hb1)
      | (go_at_call 13; (with_reducible refine (KH2.out _ HP.out.low).mono ?_); rintro e w2 ⟨rfl, hb1⟩; have HP := Lib.hid (HP.out.below hb1); clear hb1)
      | (go_at_call 16; (with_reducible refine (K5.out _ HP.out.low).mono ?_); rintro e w3 ⟨rfl, hb1⟩; have HP := Lib.hid (HP.out.below hb1); clear hb1)
      | (go_at_call 14; (with_reducible refine (K6.out _ HP.out.low).mono ?_); rintro e w4 ⟨rfl, hb1⟩; have HP := Lib.hid (HP.out.below hb1); clear hb1))
    go_ret
    exact ⟨rfl, HP.out.low⟩
  have K1 := Lib.hid (K1.out HF.out)
  have K2 := Lib.hid (K2.out HF.out)
  have K3 := Lib.hid (K3.out HF.out)
  have K4 := Lib.hid (K4.out HF.out)
  have K5 := Lib.hid (K5.out HF.out)
  have K6 := Lib.hid (K6.out HF.out)
  have K7 := Lib.hid (K7.out HF.out HF'.out)
  have K8 := Lib.hid (K8.out HF.out HF'.out)
  go_enter Tryz.func8, Tryz.ntmps8
  go_wp2_with (first
    | ((with_reducible refine Mem.load_row W.heap.size ?_ HP.out.one Tryz.underlying27 HN6.out ?_ ?_); rfl; rfl)
    | ((with_reducible refine Mem.load_row (W.heap.size + 1) ?_ HP.out.two Tryz.underlying27 HN7.out ?_ ?_); rfl; rfl)
    | (go_at_call 13; (with_reducible refine (KH1.out _ HP.out.low).mono ?_); rintro e w1 ⟨rfl, hb1⟩; have HP := Lib.hid (HP.out.below hb1); clear hb1)
    | (go_at_call 13; (with_reducible refine (KH2.out _ HP.out.low).mono ?_); rintro e w2 ⟨rfl, hb1⟩; have HP := Lib.hid (HP.out.below hb1); clear hb1)
    | (go_at_call 16; (with_reducible refine (K5.out _ HP.out.low).mono ?_); rintro e w3 ⟨rfl, hb1⟩; have HP := Lib.hid (HP.out.below hb1); clear hb1)
    | (go_at_call 14; (with_reducible refine (K6.out _ HP.out.low).mono ?_); rintro e w4 ⟨rfl, hb1⟩; have HP := Lib.hid (HP.out.below hb1); clear hb1))
  refine region_in (PrD W cs ds) (by kernel_rfl) (by kernel_rfl) (HP.out.below (Below.refl _ _).drew) ?_
  repeat (first
    | go_big_quiet_skip
    | (go_big_quiet_want; first
      | ((with_reducible refine load_box W.heap.size ?_ (fun p => p.property.one) Tryz.underlying27 HN6.out ?_); rfl; simp only [Act.put, List.setIfInBounds_toArray, List.set_cons_zero, List.set_cons_succ]; go_big_quiet_on)
      | ((with_reducible refine load_box (W.heap.size + 1) ?_ (fun p => p.property.two) Tryz.underlying27 HN7.out ?_); rfl; simp only [Act.put, List.setIfInBounds_toArray, List.set_cons_zero, List.set_cons_succ]; go_big_quiet_on)
      | (go_big_quiet_op; first
        | go_big_quiet_on
        | (apply Exists.intro; (with_reducible refine ⟨fun W1 hW1 => (K1.out W1 hW1.low).mono ?_, ?_⟩); (rintro e w1 ⟨rfl, hb1⟩; exact ⟨rfl, hW1.below hb1⟩); go_big_quiet_on)
        | (apply Exists.intro; (with_reducible refine ⟨fun W1 hW1 => (K2.out W1 hW1.low).mono ?_, ?_⟩); (rintro e w1 ⟨rfl, hb1⟩; exact ⟨rfl, hW1.below hb1⟩); go_big_quiet_on)
        | (apply Exists.intro; (with_reducible refine ⟨fun W1 hW1 => (K3.out W1 hW1.low).mono ?_, ?_⟩); (rintro e w1 ⟨rfl, hb1⟩; exact ⟨rfl, hW1.below hb1⟩); go_big_quiet_on)
        | (apply Exists.intro; (with_reducible refine ⟨fun W1 hW1 => (K4.out W1 hW1.low).mono ?_, ?_⟩); (rintro e w1 ⟨rfl, hb1⟩; exact ⟨rfl, hW1.below hb1⟩); go_big_quiet_on)
        | (apply Exists.intro; (with_reducible refine ⟨fun W1 hW1 => (K7.out W1 hW1.low).mono ?_, ?_⟩); (rintro e w1 ⟨rfl, hb1⟩; exact ⟨rfl, hW1.below hb1⟩); go_big_quiet_on)
        | (apply Exists.intro; (with_reducible refine ⟨fun W1 hW1 => (K8.out W1 hW1.low).mono ?_, ?_⟩); (rintro e w1 ⟨rfl, hb1⟩; exact ⟨rfl, hW1.below hb1⟩); go_big_quiet_on)
        | (apply Exists.intro; (with_reducible refine ⟨fun W1 hW1 => (KN1.out W1 hW1.low).mono ?_, ?_⟩); (rintro e w1 ⟨rfl, hb1⟩; exact ⟨rfl, hW1.below hb1⟩); go_big_quiet_on)
        | (apply Exists.intro; (with_reducible refine ⟨fun W1 hW1 => (KN2.out W1 hW1.low).mono ?_, ?_⟩); (rintro e w1 ⟨rfl, hb1⟩; exact ⟨rfl, hW1.below hb1⟩); go_big_quiet_on)
        | (apply Exists.intro; (with_reducible refine ⟨fun W1 hW1 => (K9.out W1 hW1.low).mono ?_, ?_⟩); (rintro e w1 ⟨rfl, hb1⟩; exact ⟨rfl, hW1.below hb1⟩); go_big_quiet_on)
        | ((refine ⟨_, fun _ _ => rfl, ?_⟩); go_big_quiet_on))))
  refine wpQuiet_nil ?_
  rintro _ ⟨⟨w2, h2⟩, rfl⟩
  go_wp2_with fail
  go_ret
  exact ⟨rfl, h2.low⟩
end Go.Proofs.YtnmbbnhgoedjgaaGreatDoor.Ck4

