/- castellanref14.Print: the document's text of a rule. -/
import Derived.Test.YtnmbbnhgoedjgaaGreatDoorQCg0
import Derived.Test.YtnmbbnhgoedjgaaGreatDoorQRuS
import Derived.Test.YtnmbbnhgoedjgaaGreatDoorQRuVa
import Derived.Deep.RegionWith
import Derived.Deep.RegionHeld3
namespace Go.Proofs.YtnmbbnhgoedjgaaGreatDoor.RuX
open Go Go.RowKit Go.Proofs.YtnmbbnhgoedjgaaGreatDoor.Ad0 Go.Proofs.YtnmbbnhgoedjgaaGreatDoor.Ru0 Go.Proofs.YtnmbbnhgoedjgaaGreatDoor.Ad1 Go.Proofs.YtnmbbnhgoedjgaaGreatDoor.St2 Go.Proofs.YtnmbbnhgoedjgaaGreatDoor.St3 Go.Proofs.YtnmbbnhgoedjgaaGreatDoor.Ru1 Go.Proofs.YtnmbbnhgoedjgaaGreatDoor.Ru2 Go.Proofs.YtnmbbnhgoedjgaaGreatDoor.St4 Go.Proofs.YtnmbbnhgoedjgaaGreatDoor.Ru3 Go.Proofs.YtnmbbnhgoedjgaaGreatDoor.Ru6 Go.Proofs.YtnmbbnhgoedjgaaGreatDoor.Ru4 Go.Proofs.YtnmbbnhgoedjgaaGreatDoor.StA Go.Proofs.YtnmbbnhgoedjgaaGreatDoor.Ru8 Go.Proofs.YtnmbbnhgoedjgaaGreatDoor.RuB Go.Proofs.YtnmbbnhgoedjgaaGreatDoor.RuC Go.Proofs.YtnmbbnhgoedjgaaGreatDoor.RuT Go.Proofs.YtnmbbnhgoedjgaaGreatDoor.RuD Go.Proofs.YtnmbbnhgoedjgaaGreatDoor.RuW Go.Proofs.YtnmbbnhgoedjgaaGreatDoor.RuH Go.Proofs.YtnmbbnhgoedjgaaGreatDoor.RuS Go.Proofs.YtnmbbnhgoedjgaaGreatDoor.RuY
set_option linter.unusedVariables false
set_option linter.unusedSimpArgs false
/-- While a rule is printed: the rule in memory. -/
structure RT (w : World) (r : RuleM) (W : World) : Prop where
  row : W.heap[w.heap.size]? = some (.cells (ruleC r) 75 (0, 0))
  low : Below w.heap.size w W
  lib : LibOK W
theorem RT.below {w W W' : World} {r : RuleM} (h : RT w r W) (hb : Below W.heap.size W W') : RT w r W' :=
  ⟨(hb.block _ (blk_lt' h.row)).trans h.row, bstep h.low hb h.low.size, h.lib.below hb⟩
theorem RT.draw {w W : World} {r : RuleM} (h : RT w r W) (n : Nat) : RT w r (W.drewN n) := h.below (bdrewN (Below.refl _ _) n)
theorem rt_cell {w W : World} {r : RuleM} (h : RT w r W) (k : Nat) : W.cell? ⟨w.heap.size, k, none⟩ = (ruleC r)[k]? := cell_of_row _ _ _ _ _ _ h.row
theorem on_len (r : RuleM) (h : ruleR r = true) : r.on.length ≤ 8 := by
  rw [ruleR_chain] at h
  simp only [Bool.and_eq_true, Bool.not_eq_true', c2a, Bool.and_eq_false_iff, decide_eq_false_iff_not, Bool.not_eq_false'] at h
  rcases h.2.2.1 with h1 | h1
  · have : r.on = [] := by simpa using h1
    simp [this]
  · simp only [nameL, Bool.and_eq_true, decide_eq_true_eq] at h1
    exact h1.1.2
theorem pin_len (p : PinM) (h : pinR p = true) : p.iface.length ≤ 8 := by
  unfold pinR at h
  split at h
  · simp only [nameL, Bool.and_eq_true, decide_eq_true_eq] at h
    exact h.1.2
  · have : p = {} := by simpa using h
    simp [this]
theorem protoW_len (n : Int) (h0 : 0 ≤ n) (h1 : n ≤ 255) : (protoW n).length ≤ 5 := by
  unfold protoW
  split
  · decide
  · split
    · decide
    · split
      · decide
      · exact itoa_len n h0 (by omega)
theorem tkS_len (s : SideM) (b : Bool) (h : sideR s b = true) : (spaced (tkS s)).length ≤ 50 := by
  obtain ⟨hlow, hany0, htl⟩ := sideR_facts s b h
  have hwl := whoW_len s htl
  have i1 := itoa_len s.low (by omega) (by omega)
  have i2 := itoa_len s.high (by omega) (by omega)
  rw [rend_text]
  split
  · omega
  · split <;> simp <;> omega
theorem flags_len (n : Nat) : (flagsW n).length ≤ 7 := by
  unfold flagsW
  split
  · simp
  · unfold flagsL
    have := List.length_filterMap_le (fun i => if n.testBit i then letters[i]? else none) (List.range 6)
    simp at this
    omega
theorem itoa_len' (n : Int) (h0 : -1 ≤ n) (h1 : n ≤ 65535) : (Lib.itoa n).length ≤ 5 := by
  by_cases h : n = -1
  · subst h; decide +kernel
  · exact itoa_len n (by omega) h1
theorem letters_low (n : Nat) (hn : n < 64) (w : World) : Calls Tryz.prog 135 #[.int .i64 n] w fun e w' => e = .returned (.string ⟨(flagsW n).toArray⟩) ∧ Below w.heap.size w w' :=
  (letters_any n hn w).mono fun e w' ⟨h1, h2⟩ => ⟨h1, by rw [h2]; exact Below.refl _ _⟩
theorem if_flat (c : Prop) [Decidable c] (a b : List Wd) (f : Wd → Wd) : (if c then a else b).flatMap f = if c then a.flatMap f else b.flatMap f := by split <;> rfl
theorem tkS_flat (s : SideM) : (tkS s).flatMap (fun w => 32 :: w) = 32 :: spaced (tkS s) := by simp [tkS, spaced]
theorem if_ne' (n k : Int) (a : Wd) : (if (n != k) then a else []) = (if n = k then [] else a) := by by_cases h : n = k <;> simp [h]
theorem if_on' (l : Wd) (a : Wd) : (if (!l.isEmpty) then a else []) = (if l = [] then [] else a) := by cases l <;> simp
theorem rtext (r : RuleM) : ∀ (y0 y1 y2 y3 y4 y5 y6 y7 y8 y9 y10 y11 : Wd), (if r.pass then wPass else wBlock) = y0 → (if r.ret then (y0 ++ [32, 114, 101, 116, 117, 114, 110]) else y0) = y1 → (if r.quick then (y1 ++ [32, 113, 117, 105, 99, 107]) else y1) = y2 → (if (!r.on.isEmpty) then ((y2 ++ [32, 111, 110, 32]) ++ r.on) else y2) = y3 → (if (r.proto != 0) then ((y3 ++ [32, 112, 114, 111, 116, 111, 32]) ++ (protoW r.proto)) else y3) = y4 → ((((y4 ++ [32, 102, 114, 111, 109, 32]) ++ (spaced (tkS r.frm))) ++ [32, 116, 111, 32]) ++ (spaced (tkS r.dst))) = y5 → (if (r.mask != 0) then ((((y5 ++ [32, 102, 108, 97, 103, 115, 32]) ++ (flagsW r.set.toNat)) ++ [47]) ++ (flagsW r.mask.toNat)) else y5) = y6 → (if (r.typ != -1) then ((y6 ++ [32, 116, 121, 112, 101, 32]) ++ (Lib.itoa r.typ)) else y6) = y7 → (if r.keep then (y7 ++ [32, 107, 101, 101, 112]) else y7) = y8 → (if r.routeTo.on then ((((y8 ++ [32, 114, 111, 117, 116, 101, 45, 116, 111, 32]) ++ r.routeTo.iface) ++ [32]) ++ (printL r.routeTo.gate)) else y8) = y9 → (if r.replyTo.on then ((((y9 ++ [32, 114, 101, 112, 108, 121, 45, 116, 111, 32]) ++ r.replyTo.iface) ++ [32]) ++ (printL r.replyTo.gate)) else y9) = y10 → (if (r.table != 0) then ((y10 ++ [32, 116, 97, 98, 108, 101, 32]) ++ (Lib.itoa r.table)) else y10) = y11 → y11 = spaced (tokens r) := by
  intro y0 y1 y2 y3 y4 y5 y6 y7 y8 y9 y10 y11 h0 h1 h2 h3 h4 h5 h6 h7 h8 h9 h10 h11
  have add (c : Bool) (a b : Wd) : (if c then a ++ b else a) = a ++ (if c then b else []) := by cases c <;> simp
  simp only [List.append_assoc, add, if_ne', if_on'] at h1 h2 h3 h4 h5 h6 h7 h8 h9 h10 h11
  rw [← h11, ← h10, ← h9, ← h8, ← h7, ← h6, ← h5, ← h4, ← h3, ← h2, ← h1, ← h0]
  simp only [tokens, spaced, tk1, tk2, tk3, tk4, tk5, tk6, tk7, tk8, tkPin, List.flatMap_append, List.flatMap_cons, List.flatMap_nil, if_flat, tkS_flat, List.append_assoc, List.cons_append, List.nil_append, List.append_nil, wReturn, wQuick, wOn, wProto, wFrom, wTo, wFlags, wType, wKeep, wRoute, wReply, wTable]
theorem s14 {w W : World} {r : RuleM} (h : RT w r W) : W.cell? ⟨w.heap.size, 5, none⟩ = some (.bool r.frm.any) ∧ W.cell? ⟨w.heap.size, 6, none⟩ = some (.string ⟨r.frm.table.toArray⟩) ∧ W.cell? ⟨w.heap.size, 7, none⟩ = some (.int .u32 (r.frm.pfx.addr : Nat)) ∧ W.cell? ⟨w.heap.size, 8, none⟩ = some (.int .i64 r.frm.pfx.len) ∧ W.cell? ⟨w.heap.size, 9, none⟩ = some (.int .i64 r.frm.low) ∧ W.cell? ⟨w.heap.size, 10, none⟩ = some (.int .i64 r.frm.high) ∧ W.cell? ⟨w.heap.size, 11, none⟩ = some (.bool r.dst.any) ∧ W.cell? ⟨w.heap.size, 12, none⟩ = some (.string ⟨r.dst.table.toArray⟩) ∧ W.cell? ⟨w.heap.size, 13, none⟩ = some (.int .u32 (r.dst.pfx.addr : Nat)) ∧ W.cell? ⟨w.heap.size, 14, none⟩ = some (.int .i64 r.dst.pfx.len) ∧ W.cell? ⟨w.heap.size, 15, none⟩ = some (.int .i64 r.dst.low) ∧ W.cell? ⟨w.heap.size, 16, none⟩ = some (.int .i64 r.dst.high) ∧ w.heap.size < W.heap.size ∧ RT w r W :=
  ⟨(rt_cell h 5).trans (rc5 r), (rt_cell h 6).trans (rc6 r), (rt_cell h 7).trans (rc7 r), (rt_cell h 8).trans (rc8 r), (rt_cell h 9).trans (rc9 r), (rt_cell h 10).trans (rc10 r), (rt_cell h 11).trans (rc11 r), (rt_cell h 12).trans (rc12 r), (rt_cell h 13).trans (rc13 r), (rt_cell h 14).trans (rc14 r), (rt_cell h 15).trans (rc15 r), (rt_cell h 16).trans (rc16 r), blk_lt' h.row, h⟩
theorem k14 {w W V : World} {r : RuleM} (hb : Below W.heap.size W V) (h : W.cell? ⟨w.heap.size, 5, none⟩ = some (.bool r.frm.any) ∧ W.cell? ⟨w.heap.size, 6, none⟩ = some (.string ⟨r.frm.table.toArray⟩) ∧ W.cell? ⟨w.heap.size, 7, none⟩ = some (.int .u32 (r.frm.pfx.addr : Nat)) ∧ W.cell? ⟨w.heap.size, 8, none⟩ = some (.int .i64 r.frm.pfx.len) ∧ W.cell? ⟨w.heap.size, 9, none⟩ = some (.int .i64 r.frm.low) ∧ W.cell? ⟨w.heap.size, 10, none⟩ = some (.int .i64 r.frm.high) ∧ W.cell? ⟨w.heap.size, 11, none⟩ = some (.bool r.dst.any) ∧ W.cell? ⟨w.heap.size, 12, none⟩ = some (.string ⟨r.dst.table.toArray⟩) ∧ W.cell? ⟨w.heap.size, 13, none⟩ = some (.int .u32 (r.dst.pfx.addr : Nat)) ∧ W.cell? ⟨w.heap.size, 14, none⟩ = some (.int .i64 r.dst.pfx.len) ∧ W.cell? ⟨w.heap.size, 15, none⟩ = some (.int .i64 r.dst.low) ∧ W.cell? ⟨w.heap.size, 16, none⟩ = some (.int .i64 r.dst.high) ∧ w.heap.size < W.heap.size ∧ RT w r W) : V.cell? ⟨w.heap.size, 5, none⟩ = some (.bool r.frm.any) ∧ V.cell? ⟨w.heap.size, 6, none⟩ = some (.string ⟨r.frm.table.toArray⟩) ∧ V.cell? ⟨w.heap.size, 7, none⟩ = some (.int .u32 (r.frm.pfx.addr : Nat)) ∧ V.cell? ⟨w.heap.size, 8, none⟩ = some (.int .i64 r.frm.pfx.len) ∧ V.cell? ⟨w.heap.size, 9, none⟩ = some (.int .i64 r.frm.low) ∧ V.cell? ⟨w.heap.size, 10, none⟩ = some (.int .i64 r.frm.high) ∧ V.cell? ⟨w.heap.size, 11, none⟩ = some (.bool r.dst.any) ∧ V.cell? ⟨w.heap.size, 12, none⟩ = some (.string ⟨r.dst.table.toArray⟩) ∧ V.cell? ⟨w.heap.size, 13, none⟩ = some (.int .u32 (r.dst.pfx.addr : Nat)) ∧ V.cell? ⟨w.heap.size, 14, none⟩ = some (.int .i64 r.dst.pfx.len) ∧ V.cell? ⟨w.heap.size, 15, none⟩ = some (.int .i64 r.dst.low) ∧ V.cell? ⟨w.heap.size, 16, none⟩ = some (.int .i64 r.dst.high) ∧ w.heap.size < V.heap.size ∧ RT w r V := s14 (RT.below (h.2.2.2.2.2.2.2.2.2.2.2.2.2) hb)
theorem d14 {w W : World} {r : RuleM} (h : W.cell? ⟨w.heap.size, 5, none⟩ = some (.bool r.frm.any) ∧ W.cell? ⟨w.heap.size, 6, none⟩ = some (.string ⟨r.frm.table.toArray⟩) ∧ W.cell? ⟨w.heap.size, 7, none⟩ = some (.int .u32 (r.frm.pfx.addr : Nat)) ∧ W.cell? ⟨w.heap.size, 8, none⟩ = some (.int .i64 r.frm.pfx.len) ∧ W.cell? ⟨w.heap.size, 9, none⟩ = some (.int .i64 r.frm.low) ∧ W.cell? ⟨w.heap.size, 10, none⟩ = some (.int .i64 r.frm.high) ∧ W.cell? ⟨w.heap.size, 11, none⟩ = some (.bool r.dst.any) ∧ W.cell? ⟨w.heap.size, 12, none⟩ = some (.string ⟨r.dst.table.toArray⟩) ∧ W.cell? ⟨w.heap.size, 13, none⟩ = some (.int .u32 (r.dst.pfx.addr : Nat)) ∧ W.cell? ⟨w.heap.size, 14, none⟩ = some (.int .i64 r.dst.pfx.len) ∧ W.cell? ⟨w.heap.size, 15, none⟩ = some (.int .i64 r.dst.low) ∧ W.cell? ⟨w.heap.size, 16, none⟩ = some (.int .i64 r.dst.high) ∧ w.heap.size < W.heap.size ∧ RT w r W) : W.drew.cell? ⟨w.heap.size, 5, none⟩ = some (.bool r.frm.any) ∧ W.drew.cell? ⟨w.heap.size, 6, none⟩ = some (.string ⟨r.frm.table.toArray⟩) ∧ W.drew.cell? ⟨w.heap.size, 7, none⟩ = some (.int .u32 (r.frm.pfx.addr : Nat)) ∧ W.drew.cell? ⟨w.heap.size, 8, none⟩ = some (.int .i64 r.frm.pfx.len) ∧ W.drew.cell? ⟨w.heap.size, 9, none⟩ = some (.int .i64 r.frm.low) ∧ W.drew.cell? ⟨w.heap.size, 10, none⟩ = some (.int .i64 r.frm.high) ∧ W.drew.cell? ⟨w.heap.size, 11, none⟩ = some (.bool r.dst.any) ∧ W.drew.cell? ⟨w.heap.size, 12, none⟩ = some (.string ⟨r.dst.table.toArray⟩) ∧ W.drew.cell? ⟨w.heap.size, 13, none⟩ = some (.int .u32 (r.dst.pfx.addr : Nat)) ∧ W.drew.cell? ⟨w.heap.size, 14, none⟩ = some (.int .i64 r.dst.pfx.len) ∧ W.drew.cell? ⟨w.heap.size, 15, none⟩ = some (.int .i64 r.dst.low) ∧ W.drew.cell? ⟨w.heap.size, 16, none⟩ = some (.int .i64 r.dst.high) ∧ w.heap.size < W.drew.heap.size ∧ RT w r W.drew := s14 (RT.below (h.2.2.2.2.2.2.2.2.2.2.2.2.2) (Below.refl _ _).drew)
theorem z14 {w W : World} {r : RuleM} (h : W.cell? ⟨w.heap.size, 5, none⟩ = some (.bool r.frm.any) ∧ W.cell? ⟨w.heap.size, 6, none⟩ = some (.string ⟨r.frm.table.toArray⟩) ∧ W.cell? ⟨w.heap.size, 7, none⟩ = some (.int .u32 (r.frm.pfx.addr : Nat)) ∧ W.cell? ⟨w.heap.size, 8, none⟩ = some (.int .i64 r.frm.pfx.len) ∧ W.cell? ⟨w.heap.size, 9, none⟩ = some (.int .i64 r.frm.low) ∧ W.cell? ⟨w.heap.size, 10, none⟩ = some (.int .i64 r.frm.high) ∧ W.cell? ⟨w.heap.size, 11, none⟩ = some (.bool r.dst.any) ∧ W.cell? ⟨w.heap.size, 12, none⟩ = some (.string ⟨r.dst.table.toArray⟩) ∧ W.cell? ⟨w.heap.size, 13, none⟩ = some (.int .u32 (r.dst.pfx.addr : Nat)) ∧ W.cell? ⟨w.heap.size, 14, none⟩ = some (.int .i64 r.dst.pfx.len) ∧ W.cell? ⟨w.heap.size, 15, none⟩ = some (.int .i64 r.dst.low) ∧ W.cell? ⟨w.heap.size, 16, none⟩ = some (.int .i64 r.dst.high) ∧ w.heap.size < W.heap.size ∧ RT w r W) : RT w r W := h.2.2.2.2.2.2.2.2.2.2.2.2.2
theorem s15 {w W : World} {r : RuleM} (h : RT w r W) : W.cell? ⟨w.heap.size, 17, none⟩ = some (.int .i64 r.set) ∧ W.cell? ⟨w.heap.size, 18, none⟩ = some (.int .i64 r.mask) ∧ w.heap.size < W.heap.size ∧ RT w r W :=
  ⟨(rt_cell h 17).trans (rc17 r), (rt_cell h 18).trans (rc18 r), blk_lt' h.row, h⟩
theorem k15 {w W V : World} {r : RuleM} (hb : Below W.heap.size W V) (h : W.cell? ⟨w.heap.size, 17, none⟩ = some (.int .i64 r.set) ∧ W.cell? ⟨w.heap.size, 18, none⟩ = some (.int .i64 r.mask) ∧ w.heap.size < W.heap.size ∧ RT w r W) : V.cell? ⟨w.heap.size, 17, none⟩ = some (.int .i64 r.set) ∧ V.cell? ⟨w.heap.size, 18, none⟩ = some (.int .i64 r.mask) ∧ w.heap.size < V.heap.size ∧ RT w r V := s15 (RT.below (h.2.2.2) hb)
theorem d15 {w W : World} {r : RuleM} (h : W.cell? ⟨w.heap.size, 17, none⟩ = some (.int .i64 r.set) ∧ W.cell? ⟨w.heap.size, 18, none⟩ = some (.int .i64 r.mask) ∧ w.heap.size < W.heap.size ∧ RT w r W) : W.drew.cell? ⟨w.heap.size, 17, none⟩ = some (.int .i64 r.set) ∧ W.drew.cell? ⟨w.heap.size, 18, none⟩ = some (.int .i64 r.mask) ∧ w.heap.size < W.drew.heap.size ∧ RT w r W.drew := s15 (RT.below (h.2.2.2) (Below.refl _ _).drew)
theorem z15 {w W : World} {r : RuleM} (h : W.cell? ⟨w.heap.size, 17, none⟩ = some (.int .i64 r.set) ∧ W.cell? ⟨w.heap.size, 18, none⟩ = some (.int .i64 r.mask) ∧ w.heap.size < W.heap.size ∧ RT w r W) : RT w r W := h.2.2.2
theorem s21 {w W : World} {r : RuleM} (h : RT w r W) : W.cell? ⟨w.heap.size, 22, none⟩ = some (.string ⟨r.routeTo.iface.toArray⟩) ∧ W.cell? ⟨w.heap.size, 23, none⟩ = some (.int .u32 (r.routeTo.gate : Nat)) ∧ w.heap.size < W.heap.size ∧ RT w r W :=
  ⟨(rt_cell h 22).trans (rc22 r), (rt_cell h 23).trans (rc23 r), blk_lt' h.row, h⟩
theorem k21 {w W V : World} {r : RuleM} (hb : Below W.heap.size W V) (h : W.cell? ⟨w.heap.size, 22, none⟩ = some (.string ⟨r.routeTo.iface.toArray⟩) ∧ W.cell? ⟨w.heap.size, 23, none⟩ = some (.int .u32 (r.routeTo.gate : Nat)) ∧ w.heap.size < W.heap.size ∧ RT w r W) : V.cell? ⟨w.heap.size, 22, none⟩ = some (.string ⟨r.routeTo.iface.toArray⟩) ∧ V.cell? ⟨w.heap.size, 23, none⟩ = some (.int .u32 (r.routeTo.gate : Nat)) ∧ w.heap.size < V.heap.size ∧ RT w r V := s21 (RT.below (h.2.2.2) hb)
theorem d21 {w W : World} {r : RuleM} (h : W.cell? ⟨w.heap.size, 22, none⟩ = some (.string ⟨r.routeTo.iface.toArray⟩) ∧ W.cell? ⟨w.heap.size, 23, none⟩ = some (.int .u32 (r.routeTo.gate : Nat)) ∧ w.heap.size < W.heap.size ∧ RT w r W) : W.drew.cell? ⟨w.heap.size, 22, none⟩ = some (.string ⟨r.routeTo.iface.toArray⟩) ∧ W.drew.cell? ⟨w.heap.size, 23, none⟩ = some (.int .u32 (r.routeTo.gate : Nat)) ∧ w.heap.size < W.drew.heap.size ∧ RT w r W.drew := s21 (RT.below (h.2.2.2) (Below.refl _ _).drew)
theorem z21 {w W : World} {r : RuleM} (h : W.cell? ⟨w.heap.size, 22, none⟩ = some (.string ⟨r.routeTo.iface.toArray⟩) ∧ W.cell? ⟨w.heap.size, 23, none⟩ = some (.int .u32 (r.routeTo.gate : Nat)) ∧ w.heap.size < W.heap.size ∧ RT w r W) : RT w r W := h.2.2.2
theorem s23 {w W : World} {r : RuleM} (h : RT w r W) : W.cell? ⟨w.heap.size, 25, none⟩ = some (.string ⟨r.replyTo.iface.toArray⟩) ∧ W.cell? ⟨w.heap.size, 26, none⟩ = some (.int .u32 (r.replyTo.gate : Nat)) ∧ w.heap.size < W.heap.size ∧ RT w r W :=
  ⟨(rt_cell h 25).trans (rc25 r), (rt_cell h 26).trans (rc26 r), blk_lt' h.row, h⟩
theorem k23 {w W V : World} {r : RuleM} (hb : Below W.heap.size W V) (h : W.cell? ⟨w.heap.size, 25, none⟩ = some (.string ⟨r.replyTo.iface.toArray⟩) ∧ W.cell? ⟨w.heap.size, 26, none⟩ = some (.int .u32 (r.replyTo.gate : Nat)) ∧ w.heap.size < W.heap.size ∧ RT w r W) : V.cell? ⟨w.heap.size, 25, none⟩ = some (.string ⟨r.replyTo.iface.toArray⟩) ∧ V.cell? ⟨w.heap.size, 26, none⟩ = some (.int .u32 (r.replyTo.gate : Nat)) ∧ w.heap.size < V.heap.size ∧ RT w r V := s23 (RT.below (h.2.2.2) hb)
theorem d23 {w W : World} {r : RuleM} (h : W.cell? ⟨w.heap.size, 25, none⟩ = some (.string ⟨r.replyTo.iface.toArray⟩) ∧ W.cell? ⟨w.heap.size, 26, none⟩ = some (.int .u32 (r.replyTo.gate : Nat)) ∧ w.heap.size < W.heap.size ∧ RT w r W) : W.drew.cell? ⟨w.heap.size, 25, none⟩ = some (.string ⟨r.replyTo.iface.toArray⟩) ∧ W.drew.cell? ⟨w.heap.size, 26, none⟩ = some (.int .u32 (r.replyTo.gate : Nat)) ∧ w.heap.size < W.drew.heap.size ∧ RT w r W.drew := s23 (RT.below (h.2.2.2) (Below.refl _ _).drew)
theorem z23 {w W : World} {r : RuleM} (h : W.cell? ⟨w.heap.size, 25, none⟩ = some (.string ⟨r.replyTo.iface.toArray⟩) ∧ W.cell? ⟨w.heap.size, 26, none⟩ = some (.int .u32 (r.replyTo.gate : Nat)) ∧ w.heap.size < W.heap.size ∧ RT w r W) : RT w r W := h.2.2.2
set_option maxRecDepth 100000 in
set_option maxHeartbeats 8000000 in
theorem rprint_all (r : RuleM) (h : Fits r) (hr : ruleR r = true) (w : World) (hl : LibOK w) :
    Calls Tryz.prog 85 #[.agg (ruleC r)] w fun e w' => e = .returned (.string ⟨(spaced (tokens r)).toArray⟩) ∧ Below w.heap.size w w' := by
  have KI := Lib.hid (fun W => isR_any r h W)
  rw [hr] at KI
  have HB := Lib.hid (bnew w (.cells (ruleC r) 75))
  have HR := Lib.hid (heap_alloc_new w (.cells (ruleC r) 75))
  have HLW := Lib.hid hl
  have hi32 : (Tryz.prog.info? 75).map (·.size) = some (ruleC r).size := by kernel_rfl
  have HI32 := Lib.hid hi32
  clear hi32
  have hf := Ru3.facts r hr h.set.2
  have on8 := on_len r hr
  have ri8 := pin_len r.routeTo hf.pins.1
  have pi8 := pin_len r.replyTo hf.pins.2
  have pr5 := protoW_len r.proto hf.proto.1 hf.proto.2
  have fr50 := tkS_len r.frm _ hf.sides.1
  have ds50 := tkS_len r.dst _ hf.sides.2
  have se7 := flags_len r.set.toNat
  have ma7 := flags_len r.mask.toNat
  have ty5 := itoa_len' r.typ hf.typ.1 (by have := hf.typ; omega)
  have tb5 := itoa_len r.table hf.tab.1 (by have := hf.tab; omega)
  have rg15 := print_len r.routeTo.gate
  have pg15 := print_len r.replyTo.gate
  have KP := Lib.hid (fun W => rproto_any r.proto hf.proto.1 (by have := hf.proto; omega) W)
  have KF := Lib.hid (show ∀ W, LibOK W → Calls Tryz.prog 134 #[.agg #[.bool r.frm.any, .string ⟨r.frm.table.toArray⟩, .int .u32 (r.frm.pfx.addr : Nat), .int .i64 r.frm.pfx.len, .int .i64 r.frm.low, .int .i64 r.frm.high]] W fun e w' => e = .returned (.string ⟨(spaced (tkS r.frm)).toArray⟩) ∧ Below W.heap.size W w' from fun W hL => rend_any r.frm (portedF r.proto) hf.sides.1 h.fp W hL)
  have KD := Lib.hid (show ∀ W, LibOK W → Calls Tryz.prog 134 #[.agg #[.bool r.dst.any, .string ⟨r.dst.table.toArray⟩, .int .u32 (r.dst.pfx.addr : Nat), .int .i64 r.dst.pfx.len, .int .i64 r.dst.low, .int .i64 r.dst.high]] W fun e w' => e = .returned (.string ⟨(spaced (tkS r.dst)).toArray⟩) ∧ Below W.heap.size W w' from fun W hL => rend_any r.dst (portedF r.proto) hf.sides.2 h.dp W hL)
  have KT := Lib.hid (fun (hz : 0 ≤ r.typ) W => dec_int r.typ hz (by have := hf.typ; omega) W)
  have KB := Lib.hid (fun W => dec_int r.table (by have := hf.tab; omega) (by have := hf.tab; omega) W)
  have KR := Lib.hid (fun W => rprint_any r.routeTo.gate h.rg W)
  have KY := Lib.hid (fun W => rprint_any r.replyTo.gate h.pg W)
  have hset : ((r.set.toNat : Nat) : Int) = r.set := by have := hf.set; omega
  have hmask : ((r.mask.toNat : Nat) : Int) = r.mask := by have := hf.mask; omega
  have KS := Lib.hid (fun W => letters_low r.set.toNat (by have := hf.set; have := hf.mask; omega) W)
  have KM := Lib.hid (fun W => letters_low r.mask.toNat (by have := hf.mask; omega) W)
  rw [hset] at KS
  rw [hmask] at KM
  have hty := hf.typ.1
  clear hl hset hmask hf
  have HE := Lib.hid (rtext r)
  generalize protoW r.proto = vp at KP HE pr5
  generalize spaced (tkS r.frm) = vf at KF HE fr50
  generalize spaced (tkS r.dst) = vd at KD HE ds50
  generalize flagsW r.set.toNat = vs at KS HE se7
  generalize flagsW r.mask.toNat = vm at KM HE ma7
  generalize Lib.itoa r.typ = vt at KT HE ty5
  generalize Lib.itoa r.table = vb at KB HE tb5
  generalize printL r.routeTo.gate = vr at KR HE rg15
  generalize printL r.replyTo.gate = vy at KY HE pg15
  go_enter Tryz.func85, Tryz.ntmps85
  go_upto_region 3 with (first
    | ((with_reducible refine Mem.load_row w.heap.size ?_ HR.out Tryz.underlying75 HI32.out ?_ ?_); rfl; rfl)
    | (go_at_call 51; (with_reducible refine (KI.out _).mono ?_); rintro e w1 ⟨rfl, hb1⟩; have HB := Lib.hid (bstep HB.out hb1 HB.out.size); have HR := row_step HR hb1; clear hb1))
  have HS : Hid (RT w r w1) := Lib.hid ⟨HR.out, HB.out, HLW.out.below HB.out⟩
  clear KI HI32
  have ek : w.heap.size < w1.heap.size := blk_lt' HS.out.row
  have e0 : w1.cell? ⟨w.heap.size, 0, none⟩ = (ruleC r)[0]? := rt_cell HS.out 0
  rw [rc0] at e0
  go_upto_if 8 with fail
  go_cut [3] (fun s3 wy => s3 = .string ⟨(if r.pass then wPass else wBlock).toArray⟩ ∧ RT w r wy)
  case first =>
    cases hz : r.pass
    all_goals
      go_wp2_with fail
      go_meet
      case rel => exact ⟨by rw [hz]; rfl, HS.out⟩
  case rest =>
  clear ek e0
  obtain ⟨rfl, hS⟩ := hcut
  have HS := Lib.hid hS
  clear hS
  generalize hy0 : (if r.pass then wPass else wBlock) = y0
  have hyl0 : y0.length ≤ 5 := by rw [← hy0]; split <;> decide
  have HY0 := Lib.hid hy0
  clear hy0
  obtain ⟨q1_0, hq1_0⟩ : ∃ q, y0 ++ [32, 114, 101, 116, 117, 114, 110] = q := ⟨_, rfl⟩
  have lq1_0 : q1_0.length ≤ 12 := by rw [← hq1_0, List.length_append]; simp only [List.length_cons, List.length_nil]; omega
  have ek : w.heap.size < wc.heap.size := blk_lt' HS.out.row; have e1 : wc.cell? ⟨w.heap.size, 1, none⟩ = (ruleC r)[1]? := rt_cell HS.out 1; rw [rc1] at e1
  go_upto_if 10 with fail
  go_cut [3] (fun s3 wy => s3 = .string ⟨((if r.ret then q1_0 else y0)).toArray⟩ ∧ RT w r wy)
  case first =>
    have hadd0 : ∀ W, (Op.stringOp .add (⟨(y0).toArray⟩ : ByteArray) ⟨([32, 114, 101, 116, 117, 114, 110]).toArray⟩).run Tryz.prog W = .ok (.string ⟨(q1_0).toArray⟩) W := fun W => by rw [← hq1_0]; exact add_word (y0) ([32, 114, 101, 116, 117, 114, 110]) (by simp only [List.length_cons, List.length_nil]; omega) W
    clear hq1_0 lq1_0
    cases hz : r.ret with
    | false =>
      go_wp2_with fail
      go_meet
      case rel => exact ⟨by rw [hz]; rfl, HS.out⟩
    | true =>
      go_wp2_with fail
      go_meet
      case rel => exact ⟨by rw [hz]; first | rfl | simp [str_app], HS.out⟩
  case rest =>
  clear ek e1
  obtain ⟨rfl, hS⟩ := hcut
  have HS := Lib.hid hS
  clear hS
  have hrel : (if r.ret then (y0 ++ [32, 114, 101, 116, 117, 114, 110]) else y0) = (if r.ret then q1_0 else y0) := by rw [hq1_0]
  generalize hy1 : (if r.ret then q1_0 else y0) = y1 at hrel ⊢
  have hyl1 : y1.length ≤ 12 := by rw [← hy1]; split <;> omega
  have HY1 := Lib.hid hrel
  clear hrel hy1 hyl0 hq1_0 lq1_0
  obtain ⟨q2_0, hq2_0⟩ : ∃ q, y1 ++ [32, 113, 117, 105, 99, 107] = q := ⟨_, rfl⟩
  have lq2_0 : q2_0.length ≤ 18 := by rw [← hq2_0, List.length_append]; simp only [List.length_cons, List.length_nil]; omega
  have ek : w.heap.size < wc.heap.size := blk_lt' HS.out.row; have e2 : wc.cell? ⟨w.heap.size, 2, none⟩ = (ruleC r)[2]? := rt_cell HS.out 2; rw [rc2] at e2
  go_upto_if 14 with fail
  go_cut [3] (fun s3 wy => s3 = .string ⟨((if r.quick then q2_0 else y1)).toArray⟩ ∧ RT w r wy)
  case first =>
    have hadd0 : ∀ W, (Op.stringOp .add (⟨(y1).toArray⟩ : ByteArray) ⟨([32, 113, 117, 105, 99, 107]).toArray⟩).run Tryz.prog W = .ok (.string ⟨(q2_0).toArray⟩) W := fun W => by rw [← hq2_0]; exact add_word (y1) ([32, 113, 117, 105, 99, 107]) (by simp only [List.length_cons, List.length_nil]; omega) W
    clear hq2_0 lq2_0
    cases hz : r.quick with
    | false =>
      go_wp2_with fail
      go_meet
      case rel => exact ⟨by rw [hz]; rfl, HS.out⟩
    | true =>
      go_wp2_with fail
      go_meet
      case rel => exact ⟨by rw [hz]; first | rfl | simp [str_app], HS.out⟩
  case rest =>
  clear ek e2
  obtain ⟨rfl, hS⟩ := hcut
  have HS := Lib.hid hS
  clear hS
  have hrel : (if r.quick then (y1 ++ [32, 113, 117, 105, 99, 107]) else y1) = (if r.quick then q2_0 else y1) := by rw [hq2_0]
  generalize hy2 : (if r.quick then q2_0 else y1) = y2 at hrel ⊢
  have hyl2 : y2.length ≤ 18 := by rw [← hy2]; split <;> omega
  have HY2 := Lib.hid hrel
  clear hrel hy2 hyl1 hq2_0 lq2_0
  obtain ⟨q3_0, hq3_0⟩ : ∃ q, y2 ++ [32, 111, 110, 32] = q := ⟨_, rfl⟩
  have lq3_0 : q3_0.length ≤ 22 := by rw [← hq3_0, List.length_append]; simp only [List.length_cons, List.length_nil]; omega
  obtain ⟨q3_1, hq3_1⟩ : ∃ q, q3_0 ++ r.on = q := ⟨_, rfl⟩
  have lq3_1 : q3_1.length ≤ 30 := by rw [← hq3_1, List.length_append]; omega
  have ek : w.heap.size < wc.heap.size := blk_lt' HS.out.row; have e3 : wc.cell? ⟨w.heap.size, 3, none⟩ = (ruleC r)[3]? := rt_cell HS.out 3; rw [rc3] at e3
  go_upto_if 19 with fail
  go_cut [3] (fun s3 wy => s3 = .string ⟨((if (!r.on.isEmpty) then q3_1 else y2)).toArray⟩ ∧ RT w r wy)
  case first =>
    have hadd0 : ∀ W, (Op.stringOp .add (⟨(y2).toArray⟩ : ByteArray) ⟨([32, 111, 110, 32]).toArray⟩).run Tryz.prog W = .ok (.string ⟨(q3_0).toArray⟩) W := fun W => by rw [← hq3_0]; exact add_word (y2) ([32, 111, 110, 32]) (by simp only [List.length_cons, List.length_nil]; omega) W
    have hadd1 : ∀ W, (Op.stringOp .add (⟨(q3_0).toArray⟩ : ByteArray) ⟨(r.on).toArray⟩).run Tryz.prog W = .ok (.string ⟨(q3_1).toArray⟩) W := fun W => by rw [← hq3_1]; exact add_word (q3_0) (r.on) (by omega) W
    clear hq3_0 lq3_0 hq3_1 lq3_1
    cases hz : (!r.on.isEmpty) with
    | false =>
      go_wp2_with fail
      go_meet
      case rel => exact ⟨by rw [hz]; rfl, HS.out⟩
    | true =>
      go_wp2_with fail
      go_meet
      case rel => exact ⟨by rw [hz]; first | rfl | simp [str_app], HS.out⟩
  case rest =>
  clear ek e3
  obtain ⟨rfl, hS⟩ := hcut
  have HS := Lib.hid hS
  clear hS
  have hrel : (if (!r.on.isEmpty) then ((y2 ++ [32, 111, 110, 32]) ++ r.on) else y2) = (if (!r.on.isEmpty) then q3_1 else y2) := by rw [hq3_0, hq3_1]
  generalize hy3 : (if (!r.on.isEmpty) then q3_1 else y2) = y3 at hrel ⊢
  have hyl3 : y3.length ≤ 30 := by rw [← hy3]; split <;> omega
  have HY3 := Lib.hid hrel
  clear hrel hy3 hyl2 hq3_0 lq3_0 hq3_1 lq3_1
  obtain ⟨q4_0, hq4_0⟩ : ∃ q, y3 ++ [32, 112, 114, 111, 116, 111, 32] = q := ⟨_, rfl⟩
  have lq4_0 : q4_0.length ≤ 37 := by rw [← hq4_0, List.length_append]; simp only [List.length_cons, List.length_nil]; omega
  obtain ⟨q4_1, hq4_1⟩ : ∃ q, q4_0 ++ vp = q := ⟨_, rfl⟩
  have lq4_1 : q4_1.length ≤ 42 := by rw [← hq4_1, List.length_append]; omega
  have ek : w.heap.size < wc.heap.size := blk_lt' HS.out.row; have e4 : wc.cell? ⟨w.heap.size, 4, none⟩ = (ruleC r)[4]? := rt_cell HS.out 4; rw [rc4] at e4
  go_upto_if 27 with fail
  go_cut [3] (fun s3 wy => s3 = .string ⟨((if (r.proto != 0) then q4_1 else y3)).toArray⟩ ∧ RT w r wy)
  case first =>
    have hadd0 : ∀ W, (Op.stringOp .add (⟨(y3).toArray⟩ : ByteArray) ⟨([32, 112, 114, 111, 116, 111, 32]).toArray⟩).run Tryz.prog W = .ok (.string ⟨(q4_0).toArray⟩) W := fun W => by rw [← hq4_0]; exact add_word (y3) ([32, 112, 114, 111, 116, 111, 32]) (by simp only [List.length_cons, List.length_nil]; omega) W
    have hadd1 : ∀ W, (Op.stringOp .add (⟨(q4_0).toArray⟩ : ByteArray) ⟨(vp).toArray⟩).run Tryz.prog W = .ok (.string ⟨(q4_1).toArray⟩) W := fun W => by rw [← hq4_1]; exact add_word (q4_0) (vp) (by omega) W
    clear hq4_0 lq4_0 hq4_1 lq4_1
    cases hz : (r.proto != 0) with
    | false =>
      go_wp2_with fail
      go_meet
      case rel => exact ⟨by rw [hz]; rfl, HS.out⟩
    | true =>
      go_wp2_with (first
        | (go_at_call 133; (with_reducible refine (KP.out _).mono ?_); rintro e w2 ⟨rfl, hb⟩; have HS2 := Lib.hid (HS.out.below hb); clear hb; have f0_k : w.heap.size < w2.heap.size := blk_lt' HS2.out.row; have f0_4 : w2.cell? ⟨w.heap.size, 4, none⟩ = (ruleC r)[4]? := rt_cell HS2.out 4; rw [rc4] at f0_4))
      go_meet
      case rel => exact ⟨by rw [hz]; first | rfl | simp [str_app], HS2.out⟩
  case rest =>
  clear ek e4
  obtain ⟨rfl, hS⟩ := hcut
  have HS := Lib.hid hS
  clear hS
  have hrel : (if (r.proto != 0) then ((y3 ++ [32, 112, 114, 111, 116, 111, 32]) ++ vp) else y3) = (if (r.proto != 0) then q4_1 else y3) := by rw [hq4_0, hq4_1]
  generalize hy4 : (if (r.proto != 0) then q4_1 else y3) = y4 at hrel ⊢
  have hyl4 : y4.length ≤ 42 := by rw [← hy4]; split <;> omega
  have HY4 := Lib.hid hrel
  clear hrel hy4 hyl3 hq4_0 lq4_0 hq4_1 lq4_1
  obtain ⟨q5_0, hq5_0⟩ : ∃ q, y4 ++ [32, 102, 114, 111, 109, 32] = q := ⟨_, rfl⟩
  have lq5_0 : q5_0.length ≤ 48 := by rw [← hq5_0, List.length_append]; simp only [List.length_cons, List.length_nil]; omega
  obtain ⟨q5_1, hq5_1⟩ : ∃ q, q5_0 ++ vf = q := ⟨_, rfl⟩
  have lq5_1 : q5_1.length ≤ 98 := by rw [← hq5_1, List.length_append]; omega
  obtain ⟨q5_2, hq5_2⟩ : ∃ q, q5_1 ++ [32, 116, 111, 32] = q := ⟨_, rfl⟩
  have lq5_2 : q5_2.length ≤ 102 := by rw [← hq5_2, List.length_append]; simp only [List.length_cons, List.length_nil]; omega
  obtain ⟨q5_3, hq5_3⟩ : ∃ q, q5_2 ++ vd = q := ⟨_, rfl⟩
  have lq5_3 : q5_3.length ≤ 152 := by rw [← hq5_3, List.length_append]; omega
  have ek : w.heap.size < wc.heap.size := blk_lt' HS.out.row; have e5 : wc.cell? ⟨w.heap.size, 5, none⟩ = (ruleC r)[5]? := rt_cell HS.out 5; rw [rc5] at e5; have e6 : wc.cell? ⟨w.heap.size, 6, none⟩ = (ruleC r)[6]? := rt_cell HS.out 6; rw [rc6] at e6; have e7 : wc.cell? ⟨w.heap.size, 7, none⟩ = (ruleC r)[7]? := rt_cell HS.out 7; rw [rc7] at e7; have e8 : wc.cell? ⟨w.heap.size, 8, none⟩ = (ruleC r)[8]? := rt_cell HS.out 8; rw [rc8] at e8; have e9 : wc.cell? ⟨w.heap.size, 9, none⟩ = (ruleC r)[9]? := rt_cell HS.out 9; rw [rc9] at e9; have e10 : wc.cell? ⟨w.heap.size, 10, none⟩ = (ruleC r)[10]? := rt_cell HS.out 10; rw [rc10] at e10; have e11 : wc.cell? ⟨w.heap.size, 11, none⟩ = (ruleC r)[11]? := rt_cell HS.out 11; rw [rc11] at e11; have e12 : wc.cell? ⟨w.heap.size, 12, none⟩ = (ruleC r)[12]? := rt_cell HS.out 12; rw [rc12] at e12; have e13 : wc.cell? ⟨w.heap.size, 13, none⟩ = (ruleC r)[13]? := rt_cell HS.out 13; rw [rc13] at e13; have e14 : wc.cell? ⟨w.heap.size, 14, none⟩ = (ruleC r)[14]? := rt_cell HS.out 14; rw [rc14] at e14; have e15 : wc.cell? ⟨w.heap.size, 15, none⟩ = (ruleC r)[15]? := rt_cell HS.out 15; rw [rc15] at e15; have e16 : wc.cell? ⟨w.heap.size, 16, none⟩ = (ruleC r)[16]? := rt_cell HS.out 16; rw [rc16] at e16
  go_upto_region 14 with fail
  go_cut [3] (fun s3 wy => s3 = .string ⟨(q5_3).toArray⟩ ∧ RT w r wy)
  case first =>
    have hadd0 : ∀ W, (Op.stringOp .add (⟨(y4).toArray⟩ : ByteArray) ⟨([32, 102, 114, 111, 109, 32]).toArray⟩).run Tryz.prog W = .ok (.string ⟨(q5_0).toArray⟩) W := fun W => by rw [← hq5_0]; exact add_word (y4) ([32, 102, 114, 111, 109, 32]) (by simp only [List.length_cons, List.length_nil]; omega) W
    have hadd1 : ∀ W, (Op.stringOp .add (⟨(q5_0).toArray⟩ : ByteArray) ⟨(vf).toArray⟩).run Tryz.prog W = .ok (.string ⟨(q5_1).toArray⟩) W := fun W => by rw [← hq5_1]; exact add_word (q5_0) (vf) (by omega) W
    have hadd2 : ∀ W, (Op.stringOp .add (⟨(q5_1).toArray⟩ : ByteArray) ⟨([32, 116, 111, 32]).toArray⟩).run Tryz.prog W = .ok (.string ⟨(q5_2).toArray⟩) W := fun W => by rw [← hq5_2]; exact add_word (q5_1) ([32, 116, 111, 32]) (by simp only [List.length_cons, List.length_nil]; omega) W
    have hadd3 : ∀ W, (Op.stringOp .add (⟨(q5_2).toArray⟩ : ByteArray) ⟨(vd).toArray⟩).run Tryz.prog W = .ok (.string ⟨(q5_3).toArray⟩) W := fun W => by rw [← hq5_3]; exact add_word (q5_2) (vd) (by omega) W
    clear hq5_0 lq5_0 hq5_1 lq5_1 hq5_2 lq5_2 hq5_3 lq5_3
    have D := s14 HS.out
    go_region_held3 (fun w' => w'.cell? ⟨w.heap.size, 5, none⟩ = some (.bool r.frm.any) ∧ w'.cell? ⟨w.heap.size, 6, none⟩ = some (.string ⟨r.frm.table.toArray⟩) ∧ w'.cell? ⟨w.heap.size, 7, none⟩ = some (.int .u32 (r.frm.pfx.addr : Nat)) ∧ w'.cell? ⟨w.heap.size, 8, none⟩ = some (.int .i64 r.frm.pfx.len) ∧ w'.cell? ⟨w.heap.size, 9, none⟩ = some (.int .i64 r.frm.low) ∧ w'.cell? ⟨w.heap.size, 10, none⟩ = some (.int .i64 r.frm.high) ∧ w'.cell? ⟨w.heap.size, 11, none⟩ = some (.bool r.dst.any) ∧ w'.cell? ⟨w.heap.size, 12, none⟩ = some (.string ⟨r.dst.table.toArray⟩) ∧ w'.cell? ⟨w.heap.size, 13, none⟩ = some (.int .u32 (r.dst.pfx.addr : Nat)) ∧ w'.cell? ⟨w.heap.size, 14, none⟩ = some (.int .i64 r.dst.pfx.len) ∧ w'.cell? ⟨w.heap.size, 15, none⟩ = some (.int .i64 r.dst.low) ∧ w'.cell? ⟨w.heap.size, 16, none⟩ = some (.int .i64 r.dst.high) ∧ w.heap.size < w'.heap.size ∧ RT w r w') (first | exact d14 D | exact k14 (by assumption) (by assumption))
      (first
        | (go_at_call 134; (with_reducible refine (KF.out _ (z14 (by assumption)).lib).mono ?_); rintro e v1 ⟨rfl, hb1⟩)
        | (go_at_call 134; (with_reducible refine (KD.out _ (z14 (by assumption)).lib).mono ?_); rintro e v1 ⟨rfl, hb1⟩))
    all_goals (go_wp2_with fail; go_meet)
    all_goals (case rel => exact ⟨by first | rfl | simp [str_app], z14 (by assumption)⟩)
  case rest =>
  clear ek e5 e6 e7 e8 e9 e10 e11 e12 e13 e14 e15 e16
  obtain ⟨rfl, hS⟩ := hcut
  have HS := Lib.hid hS
  clear hS
  have hrel : ((((y4 ++ [32, 102, 114, 111, 109, 32]) ++ vf) ++ [32, 116, 111, 32]) ++ vd) = q5_3 := by rw [hq5_0, hq5_1, hq5_2, hq5_3]
  generalize hy5 : q5_3 = y5 at hrel ⊢
  have hyl5 : y5.length ≤ 152 := by rw [← hy5]; omega
  have HY5 := Lib.hid hrel
  clear hrel hy5 hyl4 hq5_0 lq5_0 hq5_1 lq5_1 hq5_2 lq5_2 hq5_3 lq5_3
  obtain ⟨q6_0, hq6_0⟩ : ∃ q, y5 ++ [32, 102, 108, 97, 103, 115, 32] = q := ⟨_, rfl⟩
  have lq6_0 : q6_0.length ≤ 159 := by rw [← hq6_0, List.length_append]; simp only [List.length_cons, List.length_nil]; omega
  obtain ⟨q6_1, hq6_1⟩ : ∃ q, q6_0 ++ vs = q := ⟨_, rfl⟩
  have lq6_1 : q6_1.length ≤ 166 := by rw [← hq6_1, List.length_append]; omega
  obtain ⟨q6_2, hq6_2⟩ : ∃ q, q6_1 ++ [47] = q := ⟨_, rfl⟩
  have lq6_2 : q6_2.length ≤ 167 := by rw [← hq6_2, List.length_append]; simp only [List.length_cons, List.length_nil]; omega
  obtain ⟨q6_3, hq6_3⟩ : ∃ q, q6_2 ++ vm = q := ⟨_, rfl⟩
  have lq6_3 : q6_3.length ≤ 174 := by rw [← hq6_3, List.length_append]; omega
  have ek : w.heap.size < wc.heap.size := blk_lt' HS.out.row; have e17 : wc.cell? ⟨w.heap.size, 17, none⟩ = (ruleC r)[17]? := rt_cell HS.out 17; rw [rc17] at e17; have e18 : wc.cell? ⟨w.heap.size, 18, none⟩ = (ruleC r)[18]? := rt_cell HS.out 18; rw [rc18] at e18
  go_upto_if 47 with fail
  go_cut [3] (fun s3 wy => s3 = .string ⟨((if (r.mask != 0) then q6_3 else y5)).toArray⟩ ∧ RT w r wy)
  case first =>
    have hadd0 : ∀ W, (Op.stringOp .add (⟨(y5).toArray⟩ : ByteArray) ⟨([32, 102, 108, 97, 103, 115, 32]).toArray⟩).run Tryz.prog W = .ok (.string ⟨(q6_0).toArray⟩) W := fun W => by rw [← hq6_0]; exact add_word (y5) ([32, 102, 108, 97, 103, 115, 32]) (by simp only [List.length_cons, List.length_nil]; omega) W
    have hadd1 : ∀ W, (Op.stringOp .add (⟨(q6_0).toArray⟩ : ByteArray) ⟨(vs).toArray⟩).run Tryz.prog W = .ok (.string ⟨(q6_1).toArray⟩) W := fun W => by rw [← hq6_1]; exact add_word (q6_0) (vs) (by omega) W
    have hadd2 : ∀ W, (Op.stringOp .add (⟨(q6_1).toArray⟩ : ByteArray) ⟨([47]).toArray⟩).run Tryz.prog W = .ok (.string ⟨(q6_2).toArray⟩) W := fun W => by rw [← hq6_2]; exact add_word (q6_1) ([47]) (by simp only [List.length_cons, List.length_nil]; omega) W
    have hadd3 : ∀ W, (Op.stringOp .add (⟨(q6_2).toArray⟩ : ByteArray) ⟨(vm).toArray⟩).run Tryz.prog W = .ok (.string ⟨(q6_3).toArray⟩) W := fun W => by rw [← hq6_3]; exact add_word (q6_2) (vm) (by omega) W
    clear hq6_0 lq6_0 hq6_1 lq6_1 hq6_2 lq6_2 hq6_3 lq6_3
    cases hz : (r.mask != 0) with
    | false =>
      go_wp2_with fail
      go_meet
      case rel => exact ⟨by rw [hz]; rfl, HS.out⟩
    | true =>
      go_upto_region 16 with fail
      have D := s15 HS.out
      go_region_held3 (fun w' => w'.cell? ⟨w.heap.size, 17, none⟩ = some (.int .i64 r.set) ∧ w'.cell? ⟨w.heap.size, 18, none⟩ = some (.int .i64 r.mask) ∧ w.heap.size < w'.heap.size ∧ RT w r w') (first | exact d15 D | exact k15 (by assumption) (by assumption))
        (first
          | (go_at_call 135; (with_reducible refine (KS.out _).mono ?_); rintro e v1 ⟨rfl, hb1⟩)
          | (go_at_call 135; (with_reducible refine (KM.out _).mono ?_); rintro e v1 ⟨rfl, hb1⟩))
      all_goals (go_wp2_with fail; go_meet)
      all_goals (case rel => exact ⟨by rw [hz]; first | rfl | simp [str_app], z15 (by assumption)⟩)
  case rest =>
  clear ek e17 e18
  obtain ⟨rfl, hS⟩ := hcut
  have HS := Lib.hid hS
  clear hS
  have hrel : (if (r.mask != 0) then ((((y5 ++ [32, 102, 108, 97, 103, 115, 32]) ++ vs) ++ [47]) ++ vm) else y5) = (if (r.mask != 0) then q6_3 else y5) := by rw [hq6_0, hq6_1, hq6_2, hq6_3]
  generalize hy6 : (if (r.mask != 0) then q6_3 else y5) = y6 at hrel ⊢
  have hyl6 : y6.length ≤ 174 := by rw [← hy6]; split <;> omega
  have HY6 := Lib.hid hrel
  clear hrel hy6 hyl5 hq6_0 lq6_0 hq6_1 lq6_1 hq6_2 lq6_2 hq6_3 lq6_3
  obtain ⟨q7_0, hq7_0⟩ : ∃ q, y6 ++ [32, 116, 121, 112, 101, 32] = q := ⟨_, rfl⟩
  have lq7_0 : q7_0.length ≤ 180 := by rw [← hq7_0, List.length_append]; simp only [List.length_cons, List.length_nil]; omega
  obtain ⟨q7_1, hq7_1⟩ : ∃ q, q7_0 ++ vt = q := ⟨_, rfl⟩
  have lq7_1 : q7_1.length ≤ 185 := by rw [← hq7_1, List.length_append]; omega
  have ek : w.heap.size < wc.heap.size := blk_lt' HS.out.row; have e19 : wc.cell? ⟨w.heap.size, 19, none⟩ = (ruleC r)[19]? := rt_cell HS.out 19; rw [rc19] at e19
  go_upto_if 61 with fail
  go_cut [3] (fun s3 wy => s3 = .string ⟨((if (r.typ != -1) then q7_1 else y6)).toArray⟩ ∧ RT w r wy)
  case first =>
    have hadd0 : ∀ W, (Op.stringOp .add (⟨(y6).toArray⟩ : ByteArray) ⟨([32, 116, 121, 112, 101, 32]).toArray⟩).run Tryz.prog W = .ok (.string ⟨(q7_0).toArray⟩) W := fun W => by rw [← hq7_0]; exact add_word (y6) ([32, 116, 121, 112, 101, 32]) (by simp only [List.length_cons, List.length_nil]; omega) W
    have hadd1 : ∀ W, (Op.stringOp .add (⟨(q7_0).toArray⟩ : ByteArray) ⟨(vt).toArray⟩).run Tryz.prog W = .ok (.string ⟨(q7_1).toArray⟩) W := fun W => by rw [← hq7_1]; exact add_word (q7_0) (vt) (by omega) W
    clear hq7_0 lq7_0 hq7_1 lq7_1
    cases hz : (r.typ != -1) with
    | false =>
      skip
      go_wp2_with fail
      go_meet
      case rel => exact ⟨by rw [hz]; rfl, HS.out⟩
    | true =>
      have htz : 0 ≤ r.typ := by have : r.typ ≠ -1 := (by simpa using hz); omega
      go_wp2_with (first
        | (go_at_call 82; (with_reducible refine (KT.out htz _).mono ?_); rintro e w2 ⟨rfl, hb⟩; have HS2 := Lib.hid (HS.out.below hb); clear hb; have f0_k : w.heap.size < w2.heap.size := blk_lt' HS2.out.row; have f0_19 : w2.cell? ⟨w.heap.size, 19, none⟩ = (ruleC r)[19]? := rt_cell HS2.out 19; rw [rc19] at f0_19))
      go_meet
      case rel => exact ⟨by rw [hz]; first | rfl | simp [str_app], HS2.out⟩
  case rest =>
  clear ek e19
  obtain ⟨rfl, hS⟩ := hcut
  have HS := Lib.hid hS
  clear hS
  have hrel : (if (r.typ != -1) then ((y6 ++ [32, 116, 121, 112, 101, 32]) ++ vt) else y6) = (if (r.typ != -1) then q7_1 else y6) := by rw [hq7_0, hq7_1]
  generalize hy7 : (if (r.typ != -1) then q7_1 else y6) = y7 at hrel ⊢
  have hyl7 : y7.length ≤ 185 := by rw [← hy7]; split <;> omega
  have HY7 := Lib.hid hrel
  clear hrel hy7 hyl6 hq7_0 lq7_0 hq7_1 lq7_1
  obtain ⟨q8_0, hq8_0⟩ : ∃ q, y7 ++ [32, 107, 101, 101, 112] = q := ⟨_, rfl⟩
  have lq8_0 : q8_0.length ≤ 190 := by rw [← hq8_0, List.length_append]; simp only [List.length_cons, List.length_nil]; omega
  have ek : w.heap.size < wc.heap.size := blk_lt' HS.out.row; have e20 : wc.cell? ⟨w.heap.size, 20, none⟩ = (ruleC r)[20]? := rt_cell HS.out 20; rw [rc20] at e20
  go_upto_if 69 with fail
  go_cut [3] (fun s3 wy => s3 = .string ⟨((if r.keep then q8_0 else y7)).toArray⟩ ∧ RT w r wy)
  case first =>
    have hadd0 : ∀ W, (Op.stringOp .add (⟨(y7).toArray⟩ : ByteArray) ⟨([32, 107, 101, 101, 112]).toArray⟩).run Tryz.prog W = .ok (.string ⟨(q8_0).toArray⟩) W := fun W => by rw [← hq8_0]; exact add_word (y7) ([32, 107, 101, 101, 112]) (by simp only [List.length_cons, List.length_nil]; omega) W
    clear hq8_0 lq8_0
    cases hz : r.keep with
    | false =>
      go_wp2_with fail
      go_meet
      case rel => exact ⟨by rw [hz]; rfl, HS.out⟩
    | true =>
      go_wp2_with fail
      go_meet
      case rel => exact ⟨by rw [hz]; first | rfl | simp [str_app], HS.out⟩
  case rest =>
  clear ek e20
  obtain ⟨rfl, hS⟩ := hcut
  have HS := Lib.hid hS
  clear hS
  have hrel : (if r.keep then (y7 ++ [32, 107, 101, 101, 112]) else y7) = (if r.keep then q8_0 else y7) := by rw [hq8_0]
  generalize hy8 : (if r.keep then q8_0 else y7) = y8 at hrel ⊢
  have hyl8 : y8.length ≤ 190 := by rw [← hy8]; split <;> omega
  have HY8 := Lib.hid hrel
  clear hrel hy8 hyl7 hq8_0 lq8_0
  obtain ⟨q9_0, hq9_0⟩ : ∃ q, y8 ++ [32, 114, 111, 117, 116, 101, 45, 116, 111, 32] = q := ⟨_, rfl⟩
  have lq9_0 : q9_0.length ≤ 200 := by rw [← hq9_0, List.length_append]; simp only [List.length_cons, List.length_nil]; omega
  obtain ⟨q9_1, hq9_1⟩ : ∃ q, q9_0 ++ r.routeTo.iface = q := ⟨_, rfl⟩
  have lq9_1 : q9_1.length ≤ 208 := by rw [← hq9_1, List.length_append]; omega
  obtain ⟨q9_2, hq9_2⟩ : ∃ q, q9_1 ++ [32] = q := ⟨_, rfl⟩
  have lq9_2 : q9_2.length ≤ 209 := by rw [← hq9_2, List.length_append]; simp only [List.length_cons, List.length_nil]; omega
  obtain ⟨q9_3, hq9_3⟩ : ∃ q, q9_2 ++ vr = q := ⟨_, rfl⟩
  have lq9_3 : q9_3.length ≤ 224 := by rw [← hq9_3, List.length_append]; omega
  have ek : w.heap.size < wc.heap.size := blk_lt' HS.out.row; have e21 : wc.cell? ⟨w.heap.size, 21, none⟩ = (ruleC r)[21]? := rt_cell HS.out 21; rw [rc21] at e21; have e22 : wc.cell? ⟨w.heap.size, 22, none⟩ = (ruleC r)[22]? := rt_cell HS.out 22; rw [rc22] at e22; have e23 : wc.cell? ⟨w.heap.size, 23, none⟩ = (ruleC r)[23]? := rt_cell HS.out 23; rw [rc23] at e23
  go_upto_if 74 with fail
  go_cut [3] (fun s3 wy => s3 = .string ⟨((if r.routeTo.on then q9_3 else y8)).toArray⟩ ∧ RT w r wy)
  case first =>
    have hadd0 : ∀ W, (Op.stringOp .add (⟨(y8).toArray⟩ : ByteArray) ⟨([32, 114, 111, 117, 116, 101, 45, 116, 111, 32]).toArray⟩).run Tryz.prog W = .ok (.string ⟨(q9_0).toArray⟩) W := fun W => by rw [← hq9_0]; exact add_word (y8) ([32, 114, 111, 117, 116, 101, 45, 116, 111, 32]) (by simp only [List.length_cons, List.length_nil]; omega) W
    have hadd1 : ∀ W, (Op.stringOp .add (⟨(q9_0).toArray⟩ : ByteArray) ⟨(r.routeTo.iface).toArray⟩).run Tryz.prog W = .ok (.string ⟨(q9_1).toArray⟩) W := fun W => by rw [← hq9_1]; exact add_word (q9_0) (r.routeTo.iface) (by omega) W
    have hadd2 : ∀ W, (Op.stringOp .add (⟨(q9_1).toArray⟩ : ByteArray) ⟨([32]).toArray⟩).run Tryz.prog W = .ok (.string ⟨(q9_2).toArray⟩) W := fun W => by rw [← hq9_2]; exact add_word (q9_1) ([32]) (by simp only [List.length_cons, List.length_nil]; omega) W
    have hadd3 : ∀ W, (Op.stringOp .add (⟨(q9_2).toArray⟩ : ByteArray) ⟨(vr).toArray⟩).run Tryz.prog W = .ok (.string ⟨(q9_3).toArray⟩) W := fun W => by rw [← hq9_3]; exact add_word (q9_2) (vr) (by omega) W
    clear hq9_0 lq9_0 hq9_1 lq9_1 hq9_2 lq9_2 hq9_3 lq9_3
    cases hz : r.routeTo.on with
    | false =>
      go_wp2_with fail
      go_meet
      case rel => exact ⟨by rw [hz]; rfl, HS.out⟩
    | true =>
      go_upto_region 22 with fail
      have D := s21 HS.out
      go_region_held3 (fun w' => w'.cell? ⟨w.heap.size, 22, none⟩ = some (.string ⟨r.routeTo.iface.toArray⟩) ∧ w'.cell? ⟨w.heap.size, 23, none⟩ = some (.int .u32 (r.routeTo.gate : Nat)) ∧ w.heap.size < w'.heap.size ∧ RT w r w') (first | exact d21 D | exact k21 (by assumption) (by assumption))
        (first
          | (go_at_call 132; (with_reducible refine (KR.out _).mono ?_); rintro e v1 ⟨rfl, hb1⟩))
      all_goals (go_wp2_with fail; go_meet)
      all_goals (case rel => exact ⟨by rw [hz]; first | rfl | simp [str_app], z21 (by assumption)⟩)
  case rest =>
  clear ek e21 e22 e23
  obtain ⟨rfl, hS⟩ := hcut
  have HS := Lib.hid hS
  clear hS
  have hrel : (if r.routeTo.on then ((((y8 ++ [32, 114, 111, 117, 116, 101, 45, 116, 111, 32]) ++ r.routeTo.iface) ++ [32]) ++ vr) else y8) = (if r.routeTo.on then q9_3 else y8) := by rw [hq9_0, hq9_1, hq9_2, hq9_3]
  generalize hy9 : (if r.routeTo.on then q9_3 else y8) = y9 at hrel ⊢
  have hyl9 : y9.length ≤ 224 := by rw [← hy9]; split <;> omega
  have HY9 := Lib.hid hrel
  clear hrel hy9 hyl8 hq9_0 lq9_0 hq9_1 lq9_1 hq9_2 lq9_2 hq9_3 lq9_3
  obtain ⟨q10_0, hq10_0⟩ : ∃ q, y9 ++ [32, 114, 101, 112, 108, 121, 45, 116, 111, 32] = q := ⟨_, rfl⟩
  have lq10_0 : q10_0.length ≤ 234 := by rw [← hq10_0, List.length_append]; simp only [List.length_cons, List.length_nil]; omega
  obtain ⟨q10_1, hq10_1⟩ : ∃ q, q10_0 ++ r.replyTo.iface = q := ⟨_, rfl⟩
  have lq10_1 : q10_1.length ≤ 242 := by rw [← hq10_1, List.length_append]; omega
  obtain ⟨q10_2, hq10_2⟩ : ∃ q, q10_1 ++ [32] = q := ⟨_, rfl⟩
  have lq10_2 : q10_2.length ≤ 243 := by rw [← hq10_2, List.length_append]; simp only [List.length_cons, List.length_nil]; omega
  obtain ⟨q10_3, hq10_3⟩ : ∃ q, q10_2 ++ vy = q := ⟨_, rfl⟩
  have lq10_3 : q10_3.length ≤ 258 := by rw [← hq10_3, List.length_append]; omega
  have ek : w.heap.size < wc.heap.size := blk_lt' HS.out.row; have e24 : wc.cell? ⟨w.heap.size, 24, none⟩ = (ruleC r)[24]? := rt_cell HS.out 24; rw [rc24] at e24; have e25 : wc.cell? ⟨w.heap.size, 25, none⟩ = (ruleC r)[25]? := rt_cell HS.out 25; rw [rc25] at e25; have e26 : wc.cell? ⟨w.heap.size, 26, none⟩ = (ruleC r)[26]? := rt_cell HS.out 26; rw [rc26] at e26
  go_upto_if 89 with fail
  go_cut [3] (fun s3 wy => s3 = .string ⟨((if r.replyTo.on then q10_3 else y9)).toArray⟩ ∧ RT w r wy)
  case first =>
    have hadd0 : ∀ W, (Op.stringOp .add (⟨(y9).toArray⟩ : ByteArray) ⟨([32, 114, 101, 112, 108, 121, 45, 116, 111, 32]).toArray⟩).run Tryz.prog W = .ok (.string ⟨(q10_0).toArray⟩) W := fun W => by rw [← hq10_0]; exact add_word (y9) ([32, 114, 101, 112, 108, 121, 45, 116, 111, 32]) (by simp only [List.length_cons, List.length_nil]; omega) W
    have hadd1 : ∀ W, (Op.stringOp .add (⟨(q10_0).toArray⟩ : ByteArray) ⟨(r.replyTo.iface).toArray⟩).run Tryz.prog W = .ok (.string ⟨(q10_1).toArray⟩) W := fun W => by rw [← hq10_1]; exact add_word (q10_0) (r.replyTo.iface) (by omega) W
    have hadd2 : ∀ W, (Op.stringOp .add (⟨(q10_1).toArray⟩ : ByteArray) ⟨([32]).toArray⟩).run Tryz.prog W = .ok (.string ⟨(q10_2).toArray⟩) W := fun W => by rw [← hq10_2]; exact add_word (q10_1) ([32]) (by simp only [List.length_cons, List.length_nil]; omega) W
    have hadd3 : ∀ W, (Op.stringOp .add (⟨(q10_2).toArray⟩ : ByteArray) ⟨(vy).toArray⟩).run Tryz.prog W = .ok (.string ⟨(q10_3).toArray⟩) W := fun W => by rw [← hq10_3]; exact add_word (q10_2) (vy) (by omega) W
    clear hq10_0 lq10_0 hq10_1 lq10_1 hq10_2 lq10_2 hq10_3 lq10_3
    cases hz : r.replyTo.on with
    | false =>
      go_wp2_with fail
      go_meet
      case rel => exact ⟨by rw [hz]; rfl, HS.out⟩
    | true =>
      go_upto_region 24 with fail
      have D := s23 HS.out
      go_region_held3 (fun w' => w'.cell? ⟨w.heap.size, 25, none⟩ = some (.string ⟨r.replyTo.iface.toArray⟩) ∧ w'.cell? ⟨w.heap.size, 26, none⟩ = some (.int .u32 (r.replyTo.gate : Nat)) ∧ w.heap.size < w'.heap.size ∧ RT w r w') (first | exact d23 D | exact k23 (by assumption) (by assumption))
        (first
          | (go_at_call 132; (with_reducible refine (KY.out _).mono ?_); rintro e v1 ⟨rfl, hb1⟩))
      all_goals (go_wp2_with fail; go_meet)
      all_goals (case rel => exact ⟨by rw [hz]; first | rfl | simp [str_app], z23 (by assumption)⟩)
  case rest =>
  clear ek e24 e25 e26
  obtain ⟨rfl, hS⟩ := hcut
  have HS := Lib.hid hS
  clear hS
  have hrel : (if r.replyTo.on then ((((y9 ++ [32, 114, 101, 112, 108, 121, 45, 116, 111, 32]) ++ r.replyTo.iface) ++ [32]) ++ vy) else y9) = (if r.replyTo.on then q10_3 else y9) := by rw [hq10_0, hq10_1, hq10_2, hq10_3]
  generalize hy10 : (if r.replyTo.on then q10_3 else y9) = y10 at hrel ⊢
  have hyl10 : y10.length ≤ 258 := by rw [← hy10]; split <;> omega
  have HY10 := Lib.hid hrel
  clear hrel hy10 hyl9 hq10_0 lq10_0 hq10_1 lq10_1 hq10_2 lq10_2 hq10_3 lq10_3
  obtain ⟨q11_0, hq11_0⟩ : ∃ q, y10 ++ [32, 116, 97, 98, 108, 101, 32] = q := ⟨_, rfl⟩
  have lq11_0 : q11_0.length ≤ 265 := by rw [← hq11_0, List.length_append]; simp only [List.length_cons, List.length_nil]; omega
  obtain ⟨q11_1, hq11_1⟩ : ∃ q, q11_0 ++ vb = q := ⟨_, rfl⟩
  have lq11_1 : q11_1.length ≤ 270 := by rw [← hq11_1, List.length_append]; omega
  have ek : w.heap.size < wc.heap.size := blk_lt' HS.out.row; have e27 : wc.cell? ⟨w.heap.size, 27, none⟩ = (ruleC r)[27]? := rt_cell HS.out 27; rw [rc27] at e27
  go_upto_if 104 with fail
  go_cut [3] (fun s3 wy => s3 = .string ⟨((if (r.table != 0) then q11_1 else y10)).toArray⟩ ∧ RT w r wy)
  case first =>
    have hadd0 : ∀ W, (Op.stringOp .add (⟨(y10).toArray⟩ : ByteArray) ⟨([32, 116, 97, 98, 108, 101, 32]).toArray⟩).run Tryz.prog W = .ok (.string ⟨(q11_0).toArray⟩) W := fun W => by rw [← hq11_0]; exact add_word (y10) ([32, 116, 97, 98, 108, 101, 32]) (by simp only [List.length_cons, List.length_nil]; omega) W
    have hadd1 : ∀ W, (Op.stringOp .add (⟨(q11_0).toArray⟩ : ByteArray) ⟨(vb).toArray⟩).run Tryz.prog W = .ok (.string ⟨(q11_1).toArray⟩) W := fun W => by rw [← hq11_1]; exact add_word (q11_0) (vb) (by omega) W
    clear hq11_0 lq11_0 hq11_1 lq11_1
    cases hz : (r.table != 0) with
    | false =>
      go_wp2_with fail
      go_meet
      case rel => exact ⟨by rw [hz]; rfl, HS.out⟩
    | true =>
      go_wp2_with (first
        | (go_at_call 82; (with_reducible refine (KB.out _).mono ?_); rintro e w2 ⟨rfl, hb⟩; have HS2 := Lib.hid (HS.out.below hb); clear hb; have f0_k : w.heap.size < w2.heap.size := blk_lt' HS2.out.row; have f0_27 : w2.cell? ⟨w.heap.size, 27, none⟩ = (ruleC r)[27]? := rt_cell HS2.out 27; rw [rc27] at f0_27))
      go_meet
      case rel => exact ⟨by rw [hz]; first | rfl | simp [str_app], HS2.out⟩
  case rest =>
  clear ek e27
  obtain ⟨rfl, hS⟩ := hcut
  have HS := Lib.hid hS
  clear hS
  have hrel : (if (r.table != 0) then ((y10 ++ [32, 116, 97, 98, 108, 101, 32]) ++ vb) else y10) = (if (r.table != 0) then q11_1 else y10) := by rw [hq11_0, hq11_1]
  generalize hy11 : (if (r.table != 0) then q11_1 else y10) = y11 at hrel ⊢
  have hyl11 : y11.length ≤ 270 := by rw [← hy11]; split <;> omega
  have HY11 := Lib.hid hrel
  clear hrel hy11 hyl10 hq11_0 lq11_0 hq11_1 lq11_1
  go_upto_region 27 with fail
  go_wp2_with fail
  go_ret
  refine ⟨?_, HS.out.low⟩
  rw [← HE.out y0 y1 y2 y3 y4 y5 y6 y7 y8 y9 y10 y11 HY0.out HY1.out HY2.out HY3.out HY4.out HY5.out HY6.out HY7.out HY8.out HY9.out HY10.out HY11.out]
  rfl
set_option maxRecDepth 100000 in
theorem rprint_not (r : RuleM) (h : Fits r) (hr : ruleR r = false) (w : World) :
    Calls Tryz.prog 85 #[.agg (ruleC r)] w fun e w' => e = .returned (.string ⟨#[]⟩) ∧ Below w.heap.size w w' := by
  have KI := Lib.hid (fun W => isR_any r h W)
  rw [hr] at KI
  have HB := Lib.hid (bnew w (.cells (ruleC r) 75))
  have HR := Lib.hid (heap_alloc_new w (.cells (ruleC r) 75))
  have HI32 := Lib.hid (info32 r)
  go_enter Tryz.func85, Tryz.ntmps85
  go_wp2_with (first
    | ((with_reducible refine Mem.load_row w.heap.size ?_ HR.out Tryz.underlying75 HI32.out ?_ ?_); rfl; rfl)
    | (go_at_call 51; (with_reducible refine (KI.out _).mono ?_); rintro e w1 ⟨rfl, hb1⟩; have HB := Lib.hid (bstep HB.out hb1 HB.out.size); clear hb1))
  go_ret
  exact ⟨rfl, HB.out⟩
theorem rprint_said : RPrintSaid := fun r h w hl => by
  unfold printed
  cases hr : ruleR r with
  | true => exact rprint_all r h hr w hl
  | false => exact rprint_not r h hr w
/-- How long a rule's text is. -/
theorem printed_len (r : RuleM) (h : Fits r) (hr : ruleR r = true) : (spaced (tokens r)).length ≤ 300 := by
  have hf := Ru3.facts r hr h.set.2
  have on8 := on_len r hr
  have ri8 := pin_len r.routeTo hf.pins.1
  have pi8 := pin_len r.replyTo hf.pins.2
  have pr5 := protoW_len r.proto hf.proto.1 hf.proto.2
  have fr50 := tkS_len r.frm _ hf.sides.1
  have ds50 := tkS_len r.dst _ hf.sides.2
  have se7 := flags_len r.set.toNat
  have ma7 := flags_len r.mask.toNat
  have ty5 := itoa_len' r.typ hf.typ.1 (by have := hf.typ; omega)
  have tb5 := itoa_len r.table hf.tab.1 (by have := hf.tab; omega)
  have rg15 := print_len r.routeTo.gate
  have pg15 := print_len r.replyTo.gate
  obtain ⟨y0, HY0⟩ : ∃ q, (if r.pass then wPass else wBlock) = q := ⟨_, rfl⟩
  have l0 : y0.length ≤ 5 := by rw [← HY0]; split <;> decide
  obtain ⟨y1, HY1⟩ : ∃ q, (if r.ret then (y0 ++ [32, 114, 101, 116, 117, 114, 110]) else y0) = q := ⟨_, rfl⟩
  have l1 : y1.length ≤ 12 := by rw [← HY1]; split <;> (try simp only [List.length_append, List.length_cons, List.length_nil]) <;> omega
  obtain ⟨y2, HY2⟩ : ∃ q, (if r.quick then (y1 ++ [32, 113, 117, 105, 99, 107]) else y1) = q := ⟨_, rfl⟩
  have l2 : y2.length ≤ 18 := by rw [← HY2]; split <;> (try simp only [List.length_append, List.length_cons, List.length_nil]) <;> omega
  obtain ⟨y3, HY3⟩ : ∃ q, (if (!r.on.isEmpty) then ((y2 ++ [32, 111, 110, 32]) ++ r.on) else y2) = q := ⟨_, rfl⟩
  have l3 : y3.length ≤ 30 := by rw [← HY3]; split <;> (try simp only [List.length_append, List.length_cons, List.length_nil]) <;> omega
  obtain ⟨y4, HY4⟩ : ∃ q, (if (r.proto != 0) then ((y3 ++ [32, 112, 114, 111, 116, 111, 32]) ++ (protoW r.proto)) else y3) = q := ⟨_, rfl⟩
  have l4 : y4.length ≤ 42 := by rw [← HY4]; split <;> (try simp only [List.length_append, List.length_cons, List.length_nil]) <;> omega
  obtain ⟨y5, HY5⟩ : ∃ q, ((((y4 ++ [32, 102, 114, 111, 109, 32]) ++ (spaced (tkS r.frm))) ++ [32, 116, 111, 32]) ++ (spaced (tkS r.dst))) = q := ⟨_, rfl⟩
  have l5 : y5.length ≤ 152 := by rw [← HY5]; simp only [List.length_append, List.length_cons, List.length_nil]; omega
  obtain ⟨y6, HY6⟩ : ∃ q, (if (r.mask != 0) then ((((y5 ++ [32, 102, 108, 97, 103, 115, 32]) ++ (flagsW r.set.toNat)) ++ [47]) ++ (flagsW r.mask.toNat)) else y5) = q := ⟨_, rfl⟩
  have l6 : y6.length ≤ 174 := by rw [← HY6]; split <;> (try simp only [List.length_append, List.length_cons, List.length_nil]) <;> omega
  obtain ⟨y7, HY7⟩ : ∃ q, (if (r.typ != -1) then ((y6 ++ [32, 116, 121, 112, 101, 32]) ++ (Lib.itoa r.typ)) else y6) = q := ⟨_, rfl⟩
  have l7 : y7.length ≤ 185 := by rw [← HY7]; split <;> (try simp only [List.length_append, List.length_cons, List.length_nil]) <;> omega
  obtain ⟨y8, HY8⟩ : ∃ q, (if r.keep then (y7 ++ [32, 107, 101, 101, 112]) else y7) = q := ⟨_, rfl⟩
  have l8 : y8.length ≤ 190 := by rw [← HY8]; split <;> (try simp only [List.length_append, List.length_cons, List.length_nil]) <;> omega
  obtain ⟨y9, HY9⟩ : ∃ q, (if r.routeTo.on then ((((y8 ++ [32, 114, 111, 117, 116, 101, 45, 116, 111, 32]) ++ r.routeTo.iface) ++ [32]) ++ (printL r.routeTo.gate)) else y8) = q := ⟨_, rfl⟩
  have l9 : y9.length ≤ 224 := by rw [← HY9]; split <;> (try simp only [List.length_append, List.length_cons, List.length_nil]) <;> omega
  obtain ⟨y10, HY10⟩ : ∃ q, (if r.replyTo.on then ((((y9 ++ [32, 114, 101, 112, 108, 121, 45, 116, 111, 32]) ++ r.replyTo.iface) ++ [32]) ++ (printL r.replyTo.gate)) else y9) = q := ⟨_, rfl⟩
  have l10 : y10.length ≤ 258 := by rw [← HY10]; split <;> (try simp only [List.length_append, List.length_cons, List.length_nil]) <;> omega
  obtain ⟨y11, HY11⟩ : ∃ q, (if (r.table != 0) then ((y10 ++ [32, 116, 97, 98, 108, 101, 32]) ++ (Lib.itoa r.table)) else y10) = q := ⟨_, rfl⟩
  have l11 : y11.length ≤ 270 := by rw [← HY11]; split <;> (try simp only [List.length_append, List.length_cons, List.length_nil]) <;> omega
  rw [← rtext r y0 y1 y2 y3 y4 y5 y6 y7 y8 y9 y10 y11 HY0 HY1 HY2 HY3 HY4 HY5 HY6 HY7 HY8 HY9 HY10 HY11]
  omega
end Go.Proofs.YtnmbbnhgoedjgaaGreatDoor.RuX

