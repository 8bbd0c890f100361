/- castellanref20.line: numbers, interfaces. -/
import Derived.Test.YtnmbbnhgoedjgaaGreatDoorPChc
import Derived.Test.YtnmbbnhgoedjgaaGreatDoorPCh6
import Derived.Test.YtnmbbnhgoedjgaaGreatDoorPCh5
namespace Go.Proofs.YtnmbbnhgoedjgaaGreatDoor.Chd
open Go Go.RowKit Go.Proofs.YtnmbbnhgoedjgaaGreatDoor.St0 Go.Proofs.YtnmbbnhgoedjgaaGreatDoor.St2 Go.Proofs.YtnmbbnhgoedjgaaGreatDoor.St3 Go.Proofs.YtnmbbnhgoedjgaaGreatDoor.St5 Go.Proofs.YtnmbbnhgoedjgaaGreatDoor.Ru0 Go.Proofs.YtnmbbnhgoedjgaaGreatDoor.Ru1 Go.Proofs.YtnmbbnhgoedjgaaGreatDoor.Ru3 Go.Proofs.YtnmbbnhgoedjgaaGreatDoor.Ru6 Go.Proofs.YtnmbbnhgoedjgaaGreatDoor.RuB Go.Proofs.YtnmbbnhgoedjgaaGreatDoor.RuC Go.Proofs.YtnmbbnhgoedjgaaGreatDoor.RuY Go.Proofs.YtnmbbnhgoedjgaaGreatDoor.Cf0 Go.Proofs.YtnmbbnhgoedjgaaGreatDoor.Cf4 Go.Proofs.YtnmbbnhgoedjgaaGreatDoor.Cg0 Go.Proofs.YtnmbbnhgoedjgaaGreatDoor.Ch4 Go.Proofs.YtnmbbnhgoedjgaaGreatDoor.Ch7 Go.Proofs.YtnmbbnhgoedjgaaGreatDoor.CgB Go.Proofs.YtnmbbnhgoedjgaaGreatDoor.CgL Go.Proofs.YtnmbbnhgoedjgaaGreatDoor.Ch2 Go.Proofs.YtnmbbnhgoedjgaaGreatDoor.Ch9 Go.Proofs.YtnmbbnhgoedjgaaGreatDoor.RuX Go.Proofs.YtnmbbnhgoedjgaaGreatDoor.Cg5 Go.Proofs.YtnmbbnhgoedjgaaGreatDoor.Ch5
set_option linter.unusedVariables false
set_option linter.unusedSimpArgs false
section
variable {g B : Nat} {v0 v1 v2 v3 : Value} {ts : List (NamedM × Value)} {c : ConfM} {W w' : World}
theorem rgot_some {o : Option ConfM} {c' : ConfM} {e : Ending} (ho : o = some c') (he : e = .returned (.bool true)) (hr : ∃ v0 v1 v2 v3 ts, RcfAt g B v0 v1 v2 v3 ts c' w') (hk : Keep B g W w') : RLineGot g B o W e w' := by
  rw [ho]; exact ⟨he, hr, hk⟩
theorem rgot_none {o : Option ConfM} {e : Ending} (ho : o = none) (he : e = .returned (.bool false)) (hk : Keep B g W w') : RLineGot g B o W e w' := by
  rw [ho]; exact ⟨he, hk⟩
theorem set_one {a : Nat} {u : Value} {w1 : World} (h : RcfAt g B v0 v1 v2 v3 ts c W) (hb : Below W.heap.size W w1) (c' : ConfM) (hc : (confC v0 v1 v2 v3 c).setIfInBounds a u = confC v0 v1 v2 v3 c')
    (h0 : c'.ifaces = c.ifaces) (h1 : c'.bogons = c.bogons) (h2 : c'.tables = c.tables) (h3 : c'.rules = c.rules) : RcfAt g B v0 v1 v2 v3 ts c' (w1.setCell ⟨g, a, none⟩ u) := by
  have k := h.below hb
  have r := set_at (k := a) (v := u) k.row
  rw [hc] at r
  have rd := k.rd.kept (grown_set w1 g a u) (fun k e => by cases e; exact h.gB)
  refine ⟨r, ⟨by rw [h0]; exact rd.r0, by rw [h1]; exact rd.r1, rd.r2, by rw [h3]; exact rd.r3, by rw [h2]; exact rd.tab, rd.tin, rd.tap⟩, h.gB, ?_⟩
  rw [set_size]
  exact k.BW
theorem keep_one {a : Nat} {u : Value} {w1 : World} (h : RcfAt g B v0 v1 v2 v3 ts c W) (hb : Below W.heap.size W w1) : Keep B g W (w1.setCell ⟨g, a, none⟩ u) :=
  (Keep.of (hb.mono h.BW)).set (p := ⟨g, a, none⟩) (.inl rfl) u
end
set_option maxRecDepth 100000 in
set_option maxHeartbeats 4000000 in
theorem rflows_len (g B : Nat) (v0 v1 v2 v3 : Value) (ts : List (NamedM × Value)) (c : ConfM) (l : Wd) (t : List Wd) (b o cap : Nat) (W : World) (hbk : b < W.heap.size) (hcap : t.length + 1 ≤ cap) (hn : t.length ≤ 1048576)
    (hs : ∀ x ∈ t, x.length < 4294967281) (hr : W.rangeAt b o ((wFlows :: t).map fun w => Value.string ⟨w.toArray⟩)) (hR : RcfAt g B v0 v1 v2 v3 ts c W) (h2 : t.length ≠ 1) :
    Calls Tryz.prog 30 #[.pointer (some ⟨g, 0, none⟩), .string ⟨l.toArray⟩, .slice (some ⟨b, o, none⟩) (t.length + 1 : Nat) cap] W fun e w' => RLineGot g B (lineL c l (wFlows :: t)) W e w' := by
  have c0 : W.cell? ⟨b, o, none⟩ = some (.string ⟨#[102, 108, 111, 119, 115]⟩) := hr 0 _ rfl
  have HZ := Lib.hid (show lineL c l (wFlows :: t) = none by rw [line_flows, once_none _ (wFlows :: t) 1 64 (by simp; omega)]; rfl)
  have hq : (((t.length : Int) + 1) != 2) = true := by simp; omega
  have hf := (cell_of_row _ _ 4 _ _ _ hR.row).trans rfl
  clear hr hs hR h2
  go_enter Tryz.func30, Tryz.ntmps30
  go_wp2_with fail
  go_ret
  exact rgot_none HZ.out rfl (Keep.refl _ _ _)
set_option maxRecDepth 100000 in
set_option maxHeartbeats 4000000 in
theorem rflows_told (g B : Nat) (v0 v1 v2 v3 : Value) (ts : List (NamedM × Value)) (c : ConfM) (l s : Wd) (b o cap : Nat) (W : World) (hcap : 2 ≤ cap) (hr : W.rangeAt b o ([wFlows, s].map fun w => Value.string ⟨w.toArray⟩)) (hR : RcfAt g B v0 v1 v2 v3 ts c W) (htold : c.flows ≠ 0) :
    Calls Tryz.prog 30 #[.pointer (some ⟨g, 0, none⟩), .string ⟨l.toArray⟩, .slice (some ⟨b, o, none⟩) 2 cap] W fun e w' => RLineGot g B (lineL c l ([wFlows, s])) W e w' := by
  have c0 : W.cell? ⟨b, o, none⟩ = some (.string ⟨#[102, 108, 111, 119, 115]⟩) := hr 0 _ rfl
  have HZ := Lib.hid (show lineL c l [wFlows, s] = none by rw [line_flows]; simp [onceOf, htold])
  have hf : W.cell? ⟨g, 4, none⟩ = some (.int .i64 c.flows) := (cell_of_row _ _ 4 _ _ _ hR.row).trans rfl
  have hd : (c.flows != 0) = true := by simpa using htold
  clear hr hR htold
  go_enter Tryz.func30, Tryz.ntmps30
  go_wp2_with fail
  go_ret
  exact rgot_none HZ.out rfl (Keep.refl _ _ _)
set_option maxRecDepth 100000 in
set_option maxHeartbeats 4000000 in
theorem rflows_0 (g B : Nat) (v0 v1 v2 v3 : Value) (ts : List (NamedM × Value)) (c : ConfM) (l s : Wd) (b o cap : Nat) (W : World) (hcap : 2 ≤ cap) (hsl : s.length < 4294967281) (hr : W.rangeAt b o ([wFlows, s].map fun w => Value.string ⟨w.toArray⟩)) (hR : RcfAt g B v0 v1 v2 v3 ts c W) (htold : ¬ (c.flows ≠ 0)) (hno : okNum 9 s = false ∨ 64 < dv s) :
    Calls Tryz.prog 30 #[.pointer (some ⟨g, 0, none⟩), .string ⟨l.toArray⟩, .slice (some ⟨b, o, none⟩) 2 cap] W fun e w' => RLineGot g B (lineL c l ([wFlows, s])) W e w' := by
  have c0 : W.cell? ⟨b, o, none⟩ = some (.string ⟨#[102, 108, 111, 119, 115]⟩) := hr 0 _ rfl
  have c1 : W.cell? ⟨b, o + 1, none⟩ = some (.string ⟨s.toArray⟩) := hr 1 _ rfl
  have HZ := Lib.hid (show lineL c l [wFlows, s] = none by rw [line_flows]; rcases hno with h | h <;> simp [onceOf, htold, numIn, h] <;> omega)
  have hf : W.cell? ⟨g, 4, none⟩ = some (.int .i64 c.flows) := (cell_of_row _ _ 4 _ _ _ hR.row).trans rfl
  have hd : (c.flows != 0) = false := by simp at htold; simp [htold]
  have KN := fun W' => num_any ⟨s.toArray⟩ (by simp [ByteArray.size]; omega) 64 W'
  have e0 : (⟨s.toArray⟩ : ByteArray).data.toList = s := rfl
  obtain ⟨n, hnv⟩ : ∃ n : Nat, numV s 64 = .tuple #[.int .i64 (n : Nat), .bool false] := by
    unfold numV
    rcases hno with h | h
    · exact ⟨0, by rw [h]; rfl⟩
    · cases hk : okNum 9 s with
      | false => exact ⟨0, rfl⟩
      | true => exact ⟨dv s, by simp; omega⟩
  rw [e0, hnv] at KN
  have KN := Lib.hid KN
  have HRd := Lib.hid hR
  have HB := Lib.hid (Below.refl W.heap.size W)
  have fz := frozen_of_row _ _ 4 _ _ hR.row
  have hc2 : (2 : Int) ≤ cap := by omega
  clear hr hR htold e0 hnv hsl hno
  go_enter Tryz.func30, Tryz.ntmps30
  go_wp2_with (go_at_call 65; (with_reducible refine (KN.out _).mono ?_); rintro e w1 ⟨rfl, rfl⟩)
  go_ret
  exact rgot_none HZ.out rfl (keep_one HRd.out HB.out)
set_option maxRecDepth 100000 in
set_option maxHeartbeats 4000000 in
theorem rflows_1 (g B : Nat) (v0 v1 v2 v3 : Value) (ts : List (NamedM × Value)) (c : ConfM) (l s : Wd) (b o cap : Nat) (W : World) (hcap : 2 ≤ cap) (hsl : s.length < 4294967281) (hr : W.rangeAt b o ([wFlows, s].map fun w => Value.string ⟨w.toArray⟩)) (hR : RcfAt g B v0 v1 v2 v3 ts c W) (htold : ¬ (c.flows ≠ 0)) (hok : okNum 9 s = true) (h1 : 1 ≤ dv s) (h2 : dv s ≤ 64) :
    Calls Tryz.prog 30 #[.pointer (some ⟨g, 0, none⟩), .string ⟨l.toArray⟩, .slice (some ⟨b, o, none⟩) 2 cap] W fun e w' => RLineGot g B (lineL c l ([wFlows, s])) W e w' := by
  have c0 : W.cell? ⟨b, o, none⟩ = some (.string ⟨#[102, 108, 111, 119, 115]⟩) := hr 0 _ rfl
  have c1 : W.cell? ⟨b, o + 1, none⟩ = some (.string ⟨s.toArray⟩) := hr 1 _ rfl
  have HZ := Lib.hid (show lineL c l [wFlows, s] = some { c with flows := (dv s : Nat) } by rw [line_flows]; simp [onceOf, htold, numIn, hok, h1, h2])
  have hf : W.cell? ⟨g, 4, none⟩ = some (.int .i64 c.flows) := (cell_of_row _ _ 4 _ _ _ hR.row).trans rfl
  have hd : (c.flows != 0) = false := by simp at htold; simp [htold]
  have KN := fun W' => num_any ⟨s.toArray⟩ (by simp [ByteArray.size]; omega) 64 W'
  have e0 : (⟨s.toArray⟩ : ByteArray).data.toList = s := rfl
  obtain ⟨n, hn, hnv⟩ : ∃ n : Nat, n = dv s ∧ numV s 64 = .tuple #[.int .i64 (n : Nat), .bool true] := ⟨dv s, rfl, by unfold numV; rw [hok]; simp; omega⟩
  rw [← hn] at h1 HZ
  rw [e0, hnv] at KN
  have KN := Lib.hid KN
  have HRd := Lib.hid hR
  have HB := Lib.hid (Below.refl W.heap.size W)
  have fz := frozen_of_row _ _ 4 _ _ hR.row
  have hpos : decide (0 < n) = true := by simp; omega
  have hc2 : (2 : Int) ≤ cap := by omega
  clear hr hR htold e0 hnv hsl hok hn
  go_enter Tryz.func30, Tryz.ntmps30
  go_wp2_with (go_at_call 65; (with_reducible refine (KN.out _).mono ?_); rintro e w1 ⟨rfl, rfl⟩)
  go_ret
  exact rgot_some HZ.out rfl ⟨_, _, _, _, _, set_one HRd.out HB.out _ rfl rfl rfl rfl rfl⟩ (keep_one HRd.out HB.out)
set_option maxRecDepth 100000 in
set_option maxHeartbeats 4000000 in
theorem rflows_2 (g B : Nat) (v0 v1 v2 v3 : Value) (ts : List (NamedM × Value)) (c : ConfM) (l s : Wd) (b o cap : Nat) (W : World) (hcap : 2 ≤ cap) (hsl : s.length < 4294967281) (hr : W.rangeAt b o ([wFlows, s].map fun w => Value.string ⟨w.toArray⟩)) (hR : RcfAt g B v0 v1 v2 v3 ts c W) (htold : ¬ (c.flows ≠ 0)) (hok : okNum 9 s = true) (h0 : dv s = 0) :
    Calls Tryz.prog 30 #[.pointer (some ⟨g, 0, none⟩), .string ⟨l.toArray⟩, .slice (some ⟨b, o, none⟩) 2 cap] W fun e w' => RLineGot g B (lineL c l ([wFlows, s])) W e w' := by
  have c0 : W.cell? ⟨b, o, none⟩ = some (.string ⟨#[102, 108, 111, 119, 115]⟩) := hr 0 _ rfl
  have c1 : W.cell? ⟨b, o + 1, none⟩ = some (.string ⟨s.toArray⟩) := hr 1 _ rfl
  have HZ := Lib.hid (show lineL c l [wFlows, s] = none by rw [line_flows]; simp [onceOf, htold, numIn, h0])
  have hf : W.cell? ⟨g, 4, none⟩ = some (.int .i64 c.flows) := (cell_of_row _ _ 4 _ _ _ hR.row).trans rfl
  have hd : (c.flows != 0) = false := by simp at htold; simp [htold]
  have KN := fun W' => num_any ⟨s.toArray⟩ (by simp [ByteArray.size]; omega) 64 W'
  have e0 : (⟨s.toArray⟩ : ByteArray).data.toList = s := rfl
  obtain ⟨n, hn, hnv⟩ : ∃ n : Nat, n = dv s ∧ numV s 64 = .tuple #[.int .i64 (n : Nat), .bool true] := ⟨dv s, rfl, by unfold numV; rw [hok]; simp; omega⟩
  rw [e0, hnv] at KN
  have KN := Lib.hid KN
  have HRd := Lib.hid hR
  have HB := Lib.hid (Below.refl W.heap.size W)
  have fz := frozen_of_row _ _ 4 _ _ hR.row
  have hzero : decide (0 < n) = false := by simp; omega
  have hc2 : (2 : Int) ≤ cap := by omega
  clear hr hR htold e0 hnv hsl hok hn h0
  go_enter Tryz.func30, Tryz.ntmps30
  go_wp2_with (go_at_call 65; (with_reducible refine (KN.out _).mono ?_); rintro e w1 ⟨rfl, rfl⟩)
  go_ret
  exact rgot_none HZ.out rfl (keep_one HRd.out HB.out)
set_option maxRecDepth 100000 in
set_option maxHeartbeats 4000000 in
theorem rerrors_len (g B : Nat) (v0 v1 v2 v3 : Value) (ts : List (NamedM × Value)) (c : ConfM) (l : Wd) (t : List Wd) (b o cap : Nat) (W : World) (hbk : b < W.heap.size) (hcap : t.length + 1 ≤ cap) (hn : t.length ≤ 1048576)
    (hs : ∀ x ∈ t, x.length < 4294967281) (hr : W.rangeAt b o ((wErrors :: t).map fun w => Value.string ⟨w.toArray⟩)) (hR : RcfAt g B v0 v1 v2 v3 ts c W) (h2 : t.length ≠ 1) :
    Calls Tryz.prog 30 #[.pointer (some ⟨g, 0, none⟩), .string ⟨l.toArray⟩, .slice (some ⟨b, o, none⟩) (t.length + 1 : Nat) cap] W fun e w' => RLineGot g B (lineL c l (wErrors :: t)) W e w' := by
  have c0 : W.cell? ⟨b, o, none⟩ = some (.string ⟨#[101, 114, 114, 111, 114, 115]⟩) := hr 0 _ rfl
  have HZ := Lib.hid (show lineL c l (wErrors :: t) = none by rw [line_errors, once_none _ (wErrors :: t) 0 100 (by simp; omega)]; rfl)
  have hq : (((t.length : Int) + 1) != 2) = true := by simp; omega
  have hf := (cell_of_row _ _ 5 _ _ _ hR.row).trans rfl
  clear hr hs hR h2
  go_enter Tryz.func30, Tryz.ntmps30
  go_wp2_with fail
  go_ret
  exact rgot_none HZ.out rfl (Keep.refl _ _ _)
set_option maxRecDepth 100000 in
set_option maxHeartbeats 4000000 in
theorem rerrors_told (g B : Nat) (v0 v1 v2 v3 : Value) (ts : List (NamedM × Value)) (c : ConfM) (l s : Wd) (b o cap : Nat) (W : World) (hcap : 2 ≤ cap) (hr : W.rangeAt b o ([wErrors, s].map fun w => Value.string ⟨w.toArray⟩)) (hR : RcfAt g B v0 v1 v2 v3 ts c W) (htold : 0 ≤ c.errors) :
    Calls Tryz.prog 30 #[.pointer (some ⟨g, 0, none⟩), .string ⟨l.toArray⟩, .slice (some ⟨b, o, none⟩) 2 cap] W fun e w' => RLineGot g B (lineL c l ([wErrors, s])) W e w' := by
  have c0 : W.cell? ⟨b, o, none⟩ = some (.string ⟨#[101, 114, 114, 111, 114, 115]⟩) := hr 0 _ rfl
  have HZ := Lib.hid (show lineL c l [wErrors, s] = none by rw [line_errors]; simp [onceOf, htold])
  have hf : W.cell? ⟨g, 5, none⟩ = some (.int .i64 c.errors) := (cell_of_row _ _ 5 _ _ _ hR.row).trans rfl
  have hd : decide (0 ≤ c.errors) = true := by simpa using htold
  clear hr hR htold
  go_enter Tryz.func30, Tryz.ntmps30
  go_wp2_with fail
  go_ret
  exact rgot_none HZ.out rfl (Keep.refl _ _ _)
set_option maxRecDepth 100000 in
set_option maxHeartbeats 4000000 in
theorem rerrors_0 (g B : Nat) (v0 v1 v2 v3 : Value) (ts : List (NamedM × Value)) (c : ConfM) (l s : Wd) (b o cap : Nat) (W : World) (hcap : 2 ≤ cap) (hsl : s.length < 4294967281) (hr : W.rangeAt b o ([wErrors, s].map fun w => Value.string ⟨w.toArray⟩)) (hR : RcfAt g B v0 v1 v2 v3 ts c W) (htold : ¬ (0 ≤ c.errors)) (hno : okNum 9 s = false ∨ 100 < dv s) :
    Calls Tryz.prog 30 #[.pointer (some ⟨g, 0, none⟩), .string ⟨l.toArray⟩, .slice (some ⟨b, o, none⟩) 2 cap] W fun e w' => RLineGot g B (lineL c l ([wErrors, s])) W e w' := by
  have c0 : W.cell? ⟨b, o, none⟩ = some (.string ⟨#[101, 114, 114, 111, 114, 115]⟩) := hr 0 _ rfl
  have c1 : W.cell? ⟨b, o + 1, none⟩ = some (.string ⟨s.toArray⟩) := hr 1 _ rfl
  have HZ := Lib.hid (show lineL c l [wErrors, s] = none by rw [line_errors]; rcases hno with h | h <;> simp [onceOf, htold, numIn, h] <;> omega)
  have hf : W.cell? ⟨g, 5, none⟩ = some (.int .i64 c.errors) := (cell_of_row _ _ 5 _ _ _ hR.row).trans rfl
  have hd : ¬ (0 ≤ c.errors) := by simpa using htold
  have KN := fun W' => num_any ⟨s.toArray⟩ (by simp [ByteArray.size]; omega) 100 W'
  have e0 : (⟨s.toArray⟩ : ByteArray).data.toList = s := rfl
  obtain ⟨n, hnv⟩ : ∃ n : Nat, numV s 100 = .tuple #[.int .i64 (n : Nat), .bool false] := by
    unfold numV
    rcases hno with h | h
    · exact ⟨0, by rw [h]; rfl⟩
    · cases hk : okNum 9 s with
      | false => exact ⟨0, rfl⟩
      | true => exact ⟨dv s, by simp; omega⟩
  rw [e0, hnv] at KN
  have KN := Lib.hid KN
  have HRd := Lib.hid hR
  have HB := Lib.hid (Below.refl W.heap.size W)
  have fz := frozen_of_row _ _ 5 _ _ hR.row
  have hc2 : (2 : Int) ≤ cap := by omega
  clear hr hR htold e0 hnv hsl hno
  go_enter Tryz.func30, Tryz.ntmps30
  go_wp2_with (go_at_call 65; (with_reducible refine (KN.out _).mono ?_); rintro e w1 ⟨rfl, rfl⟩)
  go_ret
  exact rgot_none HZ.out rfl (keep_one HRd.out HB.out)
set_option maxRecDepth 100000 in
set_option maxHeartbeats 4000000 in
theorem rerrors_1 (g B : Nat) (v0 v1 v2 v3 : Value) (ts : List (NamedM × Value)) (c : ConfM) (l s : Wd) (b o cap : Nat) (W : World) (hcap : 2 ≤ cap) (hsl : s.length < 4294967281) (hr : W.rangeAt b o ([wErrors, s].map fun w => Value.string ⟨w.toArray⟩)) (hR : RcfAt g B v0 v1 v2 v3 ts c W) (htold : ¬ (0 ≤ c.errors)) (hok : okNum 9 s = true) (h1 : 0 ≤ dv s) (h2 : dv s ≤ 100) :
    Calls Tryz.prog 30 #[.pointer (some ⟨g, 0, none⟩), .string ⟨l.toArray⟩, .slice (some ⟨b, o, none⟩) 2 cap] W fun e w' => RLineGot g B (lineL c l ([wErrors, s])) W e w' := by
  have c0 : W.cell? ⟨b, o, none⟩ = some (.string ⟨#[101, 114, 114, 111, 114, 115]⟩) := hr 0 _ rfl
  have c1 : W.cell? ⟨b, o + 1, none⟩ = some (.string ⟨s.toArray⟩) := hr 1 _ rfl
  have HZ := Lib.hid (show lineL c l [wErrors, s] = some { c with errors := (dv s : Nat) } by rw [line_errors]; simp [onceOf, htold, numIn, hok, h1, h2])
  have hf : W.cell? ⟨g, 5, none⟩ = some (.int .i64 c.errors) := (cell_of_row _ _ 5 _ _ _ hR.row).trans rfl
  have hd : ¬ (0 ≤ c.errors) := by simpa using htold
  have KN := fun W' => num_any ⟨s.toArray⟩ (by simp [ByteArray.size]; omega) 100 W'
  have e0 : (⟨s.toArray⟩ : ByteArray).data.toList = s := rfl
  obtain ⟨n, hn, hnv⟩ : ∃ n : Nat, n = dv s ∧ numV s 100 = .tuple #[.int .i64 (n : Nat), .bool true] := ⟨dv s, rfl, by unfold numV; rw [hok]; simp; omega⟩
  rw [← hn] at h1 HZ
  rw [e0, hnv] at KN
  have KN := Lib.hid KN
  have HRd := Lib.hid hR
  have HB := Lib.hid (Below.refl W.heap.size W)
  have fz := frozen_of_row _ _ 5 _ _ hR.row
  have hc2 : (2 : Int) ≤ cap := by omega
  clear hr hR htold e0 hnv hsl hok hn
  go_enter Tryz.func30, Tryz.ntmps30
  go_wp2_with (go_at_call 65; (with_reducible refine (KN.out _).mono ?_); rintro e w1 ⟨rfl, rfl⟩)
  go_ret
  exact rgot_some HZ.out rfl ⟨_, _, _, _, _, set_one HRd.out HB.out _ rfl rfl rfl rfl rfl⟩ (keep_one HRd.out HB.out)
end Go.Proofs.YtnmbbnhgoedjgaaGreatDoor.Chd

