/- rule.Print: a rule's text. -/
import Derived.Test.YtnmbbnhgoedjgaaGreatDoorQRuU
import Derived.Test.YtnmbbnhgoedjgaaGreatDoorQCg0
import Derived.Test.YtnmbbnhgoedjgaaGreatDoorQRuVa
import Derived.Test.YtnmbbnhgoedjgaaGreatDoorQRuX
import Derived.Deep.RegionWith
import Derived.Deep.RegionHeld3
namespace Go.Proofs.YtnmbbnhgoedjgaaGreatDoor.RuV
open Go Go.RowKit Go.Proofs.YtnmbbnhgoedjgaaGreatDoor.Ad0 Go.Proofs.YtnmbbnhgoedjgaaGreatDoor.Ru0 Go.Proofs.YtnmbbnhgoedjgaaGreatDoor.Ad1 Go.Proofs.YtnmbbnhgoedjgaaGreatDoor.St2 Go.Proofs.YtnmbbnhgoedjgaaGreatDoor.St3 Go.Proofs.YtnmbbnhgoedjgaaGreatDoor.Ru1 Go.Proofs.YtnmbbnhgoedjgaaGreatDoor.Ad3 Go.Proofs.YtnmbbnhgoedjgaaGreatDoor.St4 Go.Proofs.YtnmbbnhgoedjgaaGreatDoor.Ru3 Go.Proofs.YtnmbbnhgoedjgaaGreatDoor.Ru6 Go.Proofs.YtnmbbnhgoedjgaaGreatDoor.Ru4 Go.Proofs.YtnmbbnhgoedjgaaGreatDoor.Ru8 Go.Proofs.YtnmbbnhgoedjgaaGreatDoor.RuB Go.Proofs.YtnmbbnhgoedjgaaGreatDoor.RuC Go.Proofs.YtnmbbnhgoedjgaaGreatDoor.RuU Go.Proofs.YtnmbbnhgoedjgaaGreatDoor.RuT Go.Proofs.YtnmbbnhgoedjgaaGreatDoor.RuD Go.Proofs.YtnmbbnhgoedjgaaGreatDoor.RuH Go.Proofs.YtnmbbnhgoedjgaaGreatDoor.RuVa Go.Proofs.YtnmbbnhgoedjgaaGreatDoor.RuY Go.Proofs.YtnmbbnhgoedjgaaGreatDoor.RuX
set_option linter.unusedVariables false
set_option linter.unusedSimpArgs false
theorem ite_add (c : Bool) (xs ys : List Wd) : (if c then xs ++ ys else xs) = xs ++ (if c then ys else []) := by cases c <;> simp
theorem pw_cell {w W : World} {r : RuleM} {vb : Nat} {xs : List Wd} (h : PW w r vb xs W) (k : Nat) : W.cell? ⟨w.heap.size, k, none⟩ = (ruleC r)[k]? := cell_of_row _ _ _ _ _ _ h.row
theorem pw_below {w W W' : World} {r : RuleM} {vb : Nat} {xs : List Wd} (h : PW w r vb xs W) (hb : Below W.heap.size W W') : PW w r vb xs W' := h.below hb
theorem flags_low (n : Nat) (hn : n < 64) (w : World) : Calls Tryz.prog 131 #[.int .i64 n] w fun e w' => e = .returned (.string ⟨(flagsW n).toArray⟩) ∧ Below w.heap.size w w' :=
  (flags_any n hn w).mono fun e w' ⟨h1, h2⟩ => ⟨h1, by rw [h2]; exact Below.refl _ _⟩
theorem flagsW_len (n : Nat) : (flagsW n).length ≤ 7 := by
  unfold flagsW
  split
  · simp
  · unfold flagsL
    have := List.length_filterMap_le (fun i => if n.testBit i then letters[i]? else none) (List.range 6)
    simp at this
    omega
/-- The words so far, whichever they are. -/
def PA (w : World) (r : RuleM) (vb : Nat) (W : World) : Prop := ∃ xs, PW w r vb xs W
theorem s10 {w W : World} {r : RuleM} {vb : Nat} {xs : List Wd} (h : PW w r vb xs W) : W.cell? ⟨w.heap.size, 4, none⟩ = some (.int .i64 r.proto) ∧ w.heap.size < W.heap.size ∧ PA w r vb W :=
  ⟨(pw_cell h 4).trans (rc4 r), blk_lt' h.row, xs, h⟩
theorem k10 {w W V : World} {r : RuleM} {vb : Nat} (hb : Below W.heap.size W V) (h : W.cell? ⟨w.heap.size, 4, none⟩ = some (.int .i64 r.proto) ∧ w.heap.size < W.heap.size ∧ PA w r vb W) : V.cell? ⟨w.heap.size, 4, none⟩ = some (.int .i64 r.proto) ∧ w.heap.size < V.heap.size ∧ PA w r vb V := by
  obtain ⟨xs, hx⟩ := h.2.2
  exact s10 (hx.below hb)
theorem z10 {w W : World} {r : RuleM} {vb : Nat} (h : W.cell? ⟨w.heap.size, 4, none⟩ = some (.int .i64 r.proto) ∧ w.heap.size < W.heap.size ∧ PA w r vb W) : LibOK W := by
  obtain ⟨xs, hx⟩ := h.2.2
  exact hx.lib
theorem s11 {w W : World} {r : RuleM} {vb : Nat} {xs : List Wd} (h : PW w r vb xs W) : W.cell? ⟨w.heap.size, 5, none⟩ = some (.bool r.frm.any) ∧ W.cell? ⟨w.heap.size, 6, none⟩ = some (.string ⟨r.frm.table.toArray⟩) ∧ W.cell? ⟨w.heap.size, 7, none⟩ = some (.int .u32 (r.frm.pfx.addr : Nat)) ∧ W.cell? ⟨w.heap.size, 8, none⟩ = some (.int .i64 r.frm.pfx.len) ∧ W.cell? ⟨w.heap.size, 9, none⟩ = some (.int .i64 r.frm.low) ∧ W.cell? ⟨w.heap.size, 10, none⟩ = some (.int .i64 r.frm.high) ∧ W.cell? ⟨w.heap.size, 11, none⟩ = some (.bool r.dst.any) ∧ W.cell? ⟨w.heap.size, 12, none⟩ = some (.string ⟨r.dst.table.toArray⟩) ∧ W.cell? ⟨w.heap.size, 13, none⟩ = some (.int .u32 (r.dst.pfx.addr : Nat)) ∧ W.cell? ⟨w.heap.size, 14, none⟩ = some (.int .i64 r.dst.pfx.len) ∧ W.cell? ⟨w.heap.size, 15, none⟩ = some (.int .i64 r.dst.low) ∧ W.cell? ⟨w.heap.size, 16, none⟩ = some (.int .i64 r.dst.high) ∧ w.heap.size < W.heap.size ∧ PA w r vb W :=
  ⟨(pw_cell h 5).trans (rc5 r), (pw_cell h 6).trans (rc6 r), (pw_cell h 7).trans (rc7 r), (pw_cell h 8).trans (rc8 r), (pw_cell h 9).trans (rc9 r), (pw_cell h 10).trans (rc10 r), (pw_cell h 11).trans (rc11 r), (pw_cell h 12).trans (rc12 r), (pw_cell h 13).trans (rc13 r), (pw_cell h 14).trans (rc14 r), (pw_cell h 15).trans (rc15 r), (pw_cell h 16).trans (rc16 r), blk_lt' h.row, xs, h⟩
theorem k11 {w W V : World} {r : RuleM} {vb : Nat} (hb : Below W.heap.size W V) (h : W.cell? ⟨w.heap.size, 5, none⟩ = some (.bool r.frm.any) ∧ W.cell? ⟨w.heap.size, 6, none⟩ = some (.string ⟨r.frm.table.toArray⟩) ∧ W.cell? ⟨w.heap.size, 7, none⟩ = some (.int .u32 (r.frm.pfx.addr : Nat)) ∧ W.cell? ⟨w.heap.size, 8, none⟩ = some (.int .i64 r.frm.pfx.len) ∧ W.cell? ⟨w.heap.size, 9, none⟩ = some (.int .i64 r.frm.low) ∧ W.cell? ⟨w.heap.size, 10, none⟩ = some (.int .i64 r.frm.high) ∧ W.cell? ⟨w.heap.size, 11, none⟩ = some (.bool r.dst.any) ∧ W.cell? ⟨w.heap.size, 12, none⟩ = some (.string ⟨r.dst.table.toArray⟩) ∧ W.cell? ⟨w.heap.size, 13, none⟩ = some (.int .u32 (r.dst.pfx.addr : Nat)) ∧ W.cell? ⟨w.heap.size, 14, none⟩ = some (.int .i64 r.dst.pfx.len) ∧ W.cell? ⟨w.heap.size, 15, none⟩ = some (.int .i64 r.dst.low) ∧ W.cell? ⟨w.heap.size, 16, none⟩ = some (.int .i64 r.dst.high) ∧ w.heap.size < W.heap.size ∧ PA w r vb W) : V.cell? ⟨w.heap.size, 5, none⟩ = some (.bool r.frm.any) ∧ V.cell? ⟨w.heap.size, 6, none⟩ = some (.string ⟨r.frm.table.toArray⟩) ∧ V.cell? ⟨w.heap.size, 7, none⟩ = some (.int .u32 (r.frm.pfx.addr : Nat)) ∧ V.cell? ⟨w.heap.size, 8, none⟩ = some (.int .i64 r.frm.pfx.len) ∧ V.cell? ⟨w.heap.size, 9, none⟩ = some (.int .i64 r.frm.low) ∧ V.cell? ⟨w.heap.size, 10, none⟩ = some (.int .i64 r.frm.high) ∧ V.cell? ⟨w.heap.size, 11, none⟩ = some (.bool r.dst.any) ∧ V.cell? ⟨w.heap.size, 12, none⟩ = some (.string ⟨r.dst.table.toArray⟩) ∧ V.cell? ⟨w.heap.size, 13, none⟩ = some (.int .u32 (r.dst.pfx.addr : Nat)) ∧ V.cell? ⟨w.heap.size, 14, none⟩ = some (.int .i64 r.dst.pfx.len) ∧ V.cell? ⟨w.heap.size, 15, none⟩ = some (.int .i64 r.dst.low) ∧ V.cell? ⟨w.heap.size, 16, none⟩ = some (.int .i64 r.dst.high) ∧ w.heap.size < V.heap.size ∧ PA w r vb V := by
  obtain ⟨xs, hx⟩ := h.2.2.2.2.2.2.2.2.2.2.2.2.2
  exact s11 (hx.below hb)
theorem z11 {w W : World} {r : RuleM} {vb : Nat} (h : W.cell? ⟨w.heap.size, 5, none⟩ = some (.bool r.frm.any) ∧ W.cell? ⟨w.heap.size, 6, none⟩ = some (.string ⟨r.frm.table.toArray⟩) ∧ W.cell? ⟨w.heap.size, 7, none⟩ = some (.int .u32 (r.frm.pfx.addr : Nat)) ∧ W.cell? ⟨w.heap.size, 8, none⟩ = some (.int .i64 r.frm.pfx.len) ∧ W.cell? ⟨w.heap.size, 9, none⟩ = some (.int .i64 r.frm.low) ∧ W.cell? ⟨w.heap.size, 10, none⟩ = some (.int .i64 r.frm.high) ∧ W.cell? ⟨w.heap.size, 11, none⟩ = some (.bool r.dst.any) ∧ W.cell? ⟨w.heap.size, 12, none⟩ = some (.string ⟨r.dst.table.toArray⟩) ∧ W.cell? ⟨w.heap.size, 13, none⟩ = some (.int .u32 (r.dst.pfx.addr : Nat)) ∧ W.cell? ⟨w.heap.size, 14, none⟩ = some (.int .i64 r.dst.pfx.len) ∧ W.cell? ⟨w.heap.size, 15, none⟩ = some (.int .i64 r.dst.low) ∧ W.cell? ⟨w.heap.size, 16, none⟩ = some (.int .i64 r.dst.high) ∧ w.heap.size < W.heap.size ∧ PA w r vb W) : LibOK W := by
  obtain ⟨xs, hx⟩ := h.2.2.2.2.2.2.2.2.2.2.2.2.2
  exact hx.lib
theorem s12 {w W : World} {r : RuleM} {vb : Nat} {xs : List Wd} (h : PW w r vb xs W) : W.cell? ⟨w.heap.size, 17, none⟩ = some (.int .i64 r.set) ∧ W.cell? ⟨w.heap.size, 18, none⟩ = some (.int .i64 r.mask) ∧ w.heap.size < W.heap.size ∧ PA w r vb W :=
  ⟨(pw_cell h 17).trans (rc17 r), (pw_cell h 18).trans (rc18 r), blk_lt' h.row, xs, h⟩
theorem k12 {w W V : World} {r : RuleM} {vb : Nat} (hb : Below W.heap.size W V) (h : W.cell? ⟨w.heap.size, 17, none⟩ = some (.int .i64 r.set) ∧ W.cell? ⟨w.heap.size, 18, none⟩ = some (.int .i64 r.mask) ∧ w.heap.size < W.heap.size ∧ PA w r vb W) : V.cell? ⟨w.heap.size, 17, none⟩ = some (.int .i64 r.set) ∧ V.cell? ⟨w.heap.size, 18, none⟩ = some (.int .i64 r.mask) ∧ w.heap.size < V.heap.size ∧ PA w r vb V := by
  obtain ⟨xs, hx⟩ := h.2.2.2
  exact s12 (hx.below hb)
theorem z12 {w W : World} {r : RuleM} {vb : Nat} (h : W.cell? ⟨w.heap.size, 17, none⟩ = some (.int .i64 r.set) ∧ W.cell? ⟨w.heap.size, 18, none⟩ = some (.int .i64 r.mask) ∧ w.heap.size < W.heap.size ∧ PA w r vb W) : LibOK W := by
  obtain ⟨xs, hx⟩ := h.2.2.2
  exact hx.lib
theorem s13 {w W : World} {r : RuleM} {vb : Nat} {xs : List Wd} (h : PW w r vb xs W) : W.cell? ⟨w.heap.size, 19, none⟩ = some (.int .i64 r.typ) ∧ w.heap.size < W.heap.size ∧ PA w r vb W :=
  ⟨(pw_cell h 19).trans (rc19 r), blk_lt' h.row, xs, h⟩
theorem k13 {w W V : World} {r : RuleM} {vb : Nat} (hb : Below W.heap.size W V) (h : W.cell? ⟨w.heap.size, 19, none⟩ = some (.int .i64 r.typ) ∧ w.heap.size < W.heap.size ∧ PA w r vb W) : V.cell? ⟨w.heap.size, 19, none⟩ = some (.int .i64 r.typ) ∧ w.heap.size < V.heap.size ∧ PA w r vb V := by
  obtain ⟨xs, hx⟩ := h.2.2
  exact s13 (hx.below hb)
theorem z13 {w W : World} {r : RuleM} {vb : Nat} (h : W.cell? ⟨w.heap.size, 19, none⟩ = some (.int .i64 r.typ) ∧ w.heap.size < W.heap.size ∧ PA w r vb W) : LibOK W := by
  obtain ⟨xs, hx⟩ := h.2.2
  exact hx.lib
theorem s15 {w W : World} {r : RuleM} {vb : Nat} {xs : List Wd} (h : PW w r vb xs W) : W.cell? ⟨w.heap.size, 21, none⟩ = some (.bool r.routeTo.on) ∧ W.cell? ⟨w.heap.size, 22, none⟩ = some (.string ⟨r.routeTo.iface.toArray⟩) ∧ W.cell? ⟨w.heap.size, 23, none⟩ = some (.int .u32 (r.routeTo.gate : Nat)) ∧ w.heap.size < W.heap.size ∧ PA w r vb W :=
  ⟨(pw_cell h 21).trans (rc21 r), (pw_cell h 22).trans (rc22 r), (pw_cell h 23).trans (rc23 r), blk_lt' h.row, xs, h⟩
theorem k15 {w W V : World} {r : RuleM} {vb : Nat} (hb : Below W.heap.size W V) (h : W.cell? ⟨w.heap.size, 21, none⟩ = some (.bool r.routeTo.on) ∧ W.cell? ⟨w.heap.size, 22, none⟩ = some (.string ⟨r.routeTo.iface.toArray⟩) ∧ W.cell? ⟨w.heap.size, 23, none⟩ = some (.int .u32 (r.routeTo.gate : Nat)) ∧ w.heap.size < W.heap.size ∧ PA w r vb W) : V.cell? ⟨w.heap.size, 21, none⟩ = some (.bool r.routeTo.on) ∧ V.cell? ⟨w.heap.size, 22, none⟩ = some (.string ⟨r.routeTo.iface.toArray⟩) ∧ V.cell? ⟨w.heap.size, 23, none⟩ = some (.int .u32 (r.routeTo.gate : Nat)) ∧ w.heap.size < V.heap.size ∧ PA w r vb V := by
  obtain ⟨xs, hx⟩ := h.2.2.2.2
  exact s15 (hx.below hb)
theorem z15 {w W : World} {r : RuleM} {vb : Nat} (h : W.cell? ⟨w.heap.size, 21, none⟩ = some (.bool r.routeTo.on) ∧ W.cell? ⟨w.heap.size, 22, none⟩ = some (.string ⟨r.routeTo.iface.toArray⟩) ∧ W.cell? ⟨w.heap.size, 23, none⟩ = some (.int .u32 (r.routeTo.gate : Nat)) ∧ w.heap.size < W.heap.size ∧ PA w r vb W) : LibOK W := by
  obtain ⟨xs, hx⟩ := h.2.2.2.2
  exact hx.lib
theorem s16 {w W : World} {r : RuleM} {vb : Nat} {xs : List Wd} (h : PW w r vb xs W) : W.cell? ⟨w.heap.size, 24, none⟩ = some (.bool r.replyTo.on) ∧ W.cell? ⟨w.heap.size, 25, none⟩ = some (.string ⟨r.replyTo.iface.toArray⟩) ∧ W.cell? ⟨w.heap.size, 26, none⟩ = some (.int .u32 (r.replyTo.gate : Nat)) ∧ w.heap.size < W.heap.size ∧ PA w r vb W :=
  ⟨(pw_cell h 24).trans (rc24 r), (pw_cell h 25).trans (rc25 r), (pw_cell h 26).trans (rc26 r), blk_lt' h.row, xs, h⟩
theorem k16 {w W V : World} {r : RuleM} {vb : Nat} (hb : Below W.heap.size W V) (h : W.cell? ⟨w.heap.size, 24, none⟩ = some (.bool r.replyTo.on) ∧ W.cell? ⟨w.heap.size, 25, none⟩ = some (.string ⟨r.replyTo.iface.toArray⟩) ∧ W.cell? ⟨w.heap.size, 26, none⟩ = some (.int .u32 (r.replyTo.gate : Nat)) ∧ w.heap.size < W.heap.size ∧ PA w r vb W) : V.cell? ⟨w.heap.size, 24, none⟩ = some (.bool r.replyTo.on) ∧ V.cell? ⟨w.heap.size, 25, none⟩ = some (.string ⟨r.replyTo.iface.toArray⟩) ∧ V.cell? ⟨w.heap.size, 26, none⟩ = some (.int .u32 (r.replyTo.gate : Nat)) ∧ w.heap.size < V.heap.size ∧ PA w r vb V := by
  obtain ⟨xs, hx⟩ := h.2.2.2.2
  exact s16 (hx.below hb)
theorem z16 {w W : World} {r : RuleM} {vb : Nat} (h : W.cell? ⟨w.heap.size, 24, none⟩ = some (.bool r.replyTo.on) ∧ W.cell? ⟨w.heap.size, 25, none⟩ = some (.string ⟨r.replyTo.iface.toArray⟩) ∧ W.cell? ⟨w.heap.size, 26, none⟩ = some (.int .u32 (r.replyTo.gate : Nat)) ∧ w.heap.size < W.heap.size ∧ PA w r vb W) : LibOK W := by
  obtain ⟨xs, hx⟩ := h.2.2.2.2
  exact hx.lib
theorem s17 {w W : World} {r : RuleM} {vb : Nat} {xs : List Wd} (h : PW w r vb xs W) : W.cell? ⟨w.heap.size, 27, none⟩ = some (.int .i64 r.table) ∧ w.heap.size < W.heap.size ∧ PA w r vb W :=
  ⟨(pw_cell h 27).trans (rc27 r), blk_lt' h.row, xs, h⟩
theorem k17 {w W V : World} {r : RuleM} {vb : Nat} (hb : Below W.heap.size W V) (h : W.cell? ⟨w.heap.size, 27, none⟩ = some (.int .i64 r.table) ∧ w.heap.size < W.heap.size ∧ PA w r vb W) : V.cell? ⟨w.heap.size, 27, none⟩ = some (.int .i64 r.table) ∧ w.heap.size < V.heap.size ∧ PA w r vb V := by
  obtain ⟨xs, hx⟩ := h.2.2
  exact s17 (hx.below hb)
theorem z17 {w W : World} {r : RuleM} {vb : Nat} (h : W.cell? ⟨w.heap.size, 27, none⟩ = some (.int .i64 r.table) ∧ w.heap.size < W.heap.size ∧ PA w r vb W) : LibOK W := by
  obtain ⟨xs, hx⟩ := h.2.2
  exact hx.lib
theorem spaced_tokens_ne (r : RuleM) : spaced (tokens r) ≠ spaced [] := by
  show (if r.pass then wPass else wBlock) ++ _ ≠ []
  split <;> simp [wPass, wBlock]
theorem join_pw {w W : World} {r : RuleM} {vb : Nat} {xs : List Wd} (h : PW w r vb xs W) (hn : 0 < xs.length) (hx : xs.length ≤ 1000) (hl : (spaced xs).length ≤ 300) :
    ∃ v, W.cell? ⟨vb, 0, none⟩ = some v ∧ Calls Tryz.prog 74 #[v, .string ⟨#[32]⟩] W fun e w' => e = .returned (.string ⟨(spaced xs).toArray⟩) ∧ Below W.heap.size W w' := by
  obtain ⟨v, hv, ho, hne⟩ := h.own
  have ho' := ho
  rcases ho.2 with ⟨_, h0⟩ | ⟨g, cap, cur, rfl, _, hg, hcap, _⟩
  · omega
  · refine ⟨_, (cell_of_row _ _ 0 _ _ _ hv).trans rfl, ?_⟩
    have hm : (xs.map fun x => (⟨x.toArray⟩ : ByteArray)).map (·.data.toList) = xs := by
      rw [List.map_map]
      exact (List.map_congr_left (fun a _ => rfl)).trans (List.map_id _)
    have hj : Lib.join ((xs.map fun x => (⟨x.toArray⟩ : ByteArray)).map (·.data.toList)) (⟨#[32]⟩ : ByteArray).data.toList = spaced xs := by rw [hm]; exact join_spaced xs
    have k := Tryz.strings_Join g 0 cap (xs.map fun x => ⟨x.toArray⟩) ⟨#[32]⟩ W (fun j x hjx => by
      rw [List.getElem?_map, Option.map_eq_some_iff] at hjx
      obtain ⟨y, hy, rfl⟩ := hjx
      have hjl := (List.getElem?_eq_some_iff.1 hy).1
      rw [Nat.zero_add, ho'.cellAt j (by omega)]
      simp [strs, hy]) (blk_lt' hg) (by simp; omega) (by simp; exact hcap) (by rw [hj]; omega)
    rw [hj, List.length_map] at k
    exact k
theorem pw_start {w w1 : World} {r : RuleM} (hb : Below w.heap.size w w1) (hrow : w1.heap[w.heap.size]? = some (.cells (ruleC r) 75 (0, 0))) (hl : LibOK w) (x : Wd) (W : World)
    (hw : Below w1.heap.size w1 W) (h0 : W.heap[w1.heap.size]? = some (.cells #[.string ⟨x.toArray⟩] 9 (0, 0))) (h1 : W.heap[w1.heap.size + 1]? = some (.cells #[.slice (some ⟨w1.heap.size, 0, none⟩) 1 1] 55 (0, 0))) : PW w r (w1.heap.size + 1) [x] W := by
  have hlt : w.heap.size < w1.heap.size := blk_lt' hrow
  have hlow := bstep hb hw hb.size
  refine ⟨(hw.block _ hlt).trans hrow, ⟨_, h1, ⟨rfl, .inr ⟨w1.heap.size, 1, _, rfl, hlt, h0, Nat.le_refl _, by decide, rfl, rfl⟩⟩, by simp [Value.ownBlock]⟩, hlow, hl.below hlow, by omega⟩
set_option maxRecDepth 100000 in
set_option maxHeartbeats 8000000 in
theorem print_any (r : RuleM) (h : Fits r) (hr : ruleR r = true) (w : World) (hl : LibOK w) :
    Calls Tryz.prog 78 #[.agg (ruleC r)] w fun e w' => e = .returned (.string ⟨(spaced (tokens r)).toArray⟩) ∧ Below w.heap.size w w' := by
  have hs := rules_same r h.set.1 h.set.2
  rw [hr] at hs
  have KI := Lib.hid (fun W => isP_any r h W)
  rw [hs] at KI
  clear hs
  have HB := Lib.hid (bnew w (.cells (ruleC r) 75))
  have HR := Lib.hid (heap_alloc_new w (.cells (ruleC r) 75))
  have HLW := Lib.hid hl
  have hi32 : (Tryz.prog.info? 75).map (·.size) = some (ruleC r).size := by kernel_rfl
  have HI32 := Lib.hid hi32
  clear hi32
  have hf := Ru3.facts r hr h.set.2
  clear hl
  go_enter Tryz.func78, Tryz.ntmps78
  go_upto_region 3 with (first
    | ((with_reducible refine Mem.load_row w.heap.size ?_ HR.out Tryz.underlying75 HI32.out ?_ ?_); rfl; rfl)
    | (go_at_call 47; (with_reducible refine (KI.out _).mono ?_); rintro e w1 ⟨rfl, hb1⟩; have HB := Lib.hid (bstep HB.out hb1 HB.out.size); have HR := row_step HR hb1; have hlt : w.heap.size < w1.heap.size := blk_lt' HR.out))
  have c0 : w1.cell? ⟨w.heap.size, 0, none⟩ = (ruleC r)[0]? := cell_of_row _ _ _ _ _ _ HR.out
  rw [rc0] at c0
  go_upto_if 10 with fail
  go_cut [] (fun wc => PW w r (w1.heap.size + 1) [if r.pass then wPass else wBlock] wc)
  case first =>
    have hs0 : w1.heap.size < (w1.alloc (.cells #[.string ⟨#[98, 108, 111, 99, 107]⟩] 9)).heap.size := by simp
    have hb2 := bnew2 w1 (.cells #[.string ⟨#[98, 108, 111, 99, 107]⟩] 9) (.cells #[.slice (some ⟨w1.heap.size, 0, none⟩) 1 1] 55)
    have hn2 := heap_alloc2_new w1 (.cells #[.string ⟨#[98, 108, 111, 99, 107]⟩] 9) (.cells #[.slice (some ⟨w1.heap.size, 0, none⟩) 1 1] 55)
    have ho2 := heap_alloc2_old w1 (.cells #[.string ⟨#[98, 108, 111, 99, 107]⟩] 9) (.cells #[.slice (some ⟨w1.heap.size, 0, none⟩) 1 1] 55)
    have HB2 := Lib.hid hb2
    have HN2 := Lib.hid hn2
    have HO2 := Lib.hid ho2
    clear hb2 hn2 ho2
    cases hpass : r.pass
    all_goals
      rw [hpass] at c0
      go_wp2_with fail
      go_meet
    · rw [hpass]; exact pw_start HB.out HR.out HLW.out wBlock _ HB2.out HO2.out HN2.out
    · rw [hpass]
      exact pw_start HB.out HR.out HLW.out wPass _ (bnew2 _ _ _) (heap_alloc2_old _ _ _) (heap_alloc2_new _ _ _)
  case rest =>
  have HS := Lib.hid hcut
  clear hcut
  have hxl : ([if r.pass then wPass else wBlock] : List Wd).length ≤ 1 := Nat.le_refl 1
  obtain ⟨x0, hx0⟩ : ∃ x, [if r.pass then wPass else wBlock] = x := ⟨_, rfl⟩
  rw [hx0] at HS hxl
  have HX0 := Lib.hid hx0
  clear hx0 c0
  have KP := Lib.hid (fun W hL => proto_any r.proto hf.proto.1 (by have := hf.proto; omega) W hL)
  have KF := Lib.hid (show ∀ W, LibOK W → Calls Tryz.prog 130 #[.agg #[.bool r.frm.any, .string ⟨r.frm.table.toArray⟩, .int .u32 (r.frm.pfx.addr : Nat), .int .i64 r.frm.pfx.len, .int .i64 r.frm.low, .int .i64 r.frm.high]] W fun e w' => e = .returned (.string ⟨(spaced (tkS r.frm)).toArray⟩) ∧ Below W.heap.size W w' from fun W hL => pside_any r.frm (portedF r.proto) hf.sides.1 h.fp W hL)
  have KD := Lib.hid (show ∀ W, LibOK W → Calls Tryz.prog 130 #[.agg #[.bool r.dst.any, .string ⟨r.dst.table.toArray⟩, .int .u32 (r.dst.pfx.addr : Nat), .int .i64 r.dst.pfx.len, .int .i64 r.dst.low, .int .i64 r.dst.high]] W fun e w' => e = .returned (.string ⟨(spaced (tkS r.dst)).toArray⟩) ∧ Below W.heap.size W w' from fun W hL => pside_any r.dst (portedF r.proto) hf.sides.2 h.dp W hL)
  have KT := Lib.hid (fun W hL => itoa_any r.typ (by have := hf.typ; omega) (by have := hf.typ; omega) W hL)
  have KB := Lib.hid (fun W hL => itoa_any r.table (by have := hf.tab; omega) (by have := hf.tab; omega) W hL)
  have KR := Lib.hid (fun W hL => print_lib r.routeTo.gate h.rg W hL)
  have KY := Lib.hid (fun W hL => print_lib r.replyTo.gate h.pg W hL)
  have hset : ((r.set.toNat : Nat) : Int) = r.set := by have := hf.set; omega
  have hmask : ((r.mask.toNat : Nat) : Int) = r.mask := by have := hf.mask; omega
  have KS := Lib.hid (fun W => flags_low r.set.toNat (by have := hf.set; have := hf.mask; omega) W)
  have KM := Lib.hid (fun W => flags_low r.mask.toNat (by have := hf.mask; omega) W)
  rw [hset] at KS
  rw [hmask] at KM
  have ls := flagsW_len r.set.toNat
  have lm := flagsW_len r.mask.toNat
  obtain ⟨vs, hvs⟩ : ∃ q, flagsW r.set.toNat = q := ⟨_, rfl⟩
  obtain ⟨vm, hvm⟩ : ∃ q, flagsW r.mask.toNat = q := ⟨_, rfl⟩
  rw [hvs] at KS ls
  rw [hvm] at KM lm
  have HVS := Lib.hid hvs
  have HVM := Lib.hid hvm
  clear hvs hvm
  obtain ⟨q0, hq0⟩ : ∃ q, vs ++ [47] = q := ⟨_, rfl⟩
  have lq0 : q0.length ≤ 8 := by rw [← hq0]; simp; omega
  obtain ⟨q1, hq1⟩ : ∃ q, q0 ++ vm = q := ⟨_, rfl⟩
  have hadd1 : ∀ W, (Op.stringOp .add (⟨vs.toArray⟩ : ByteArray) ⟨#[47]⟩).run Tryz.prog W = .ok (.string ⟨q0.toArray⟩) W := fun W => by rw [← hq0]; exact add_word vs [47] (by simp; omega) W
  have hadd2 : ∀ W, (Op.stringOp .add (⟨q0.toArray⟩ : ByteArray) ⟨vm.toArray⟩).run Tryz.prog W = .ok (.string ⟨q1.toArray⟩) W := fun W => by rw [← hq1]; exact add_word q0 vm (by omega) W
  have HQ0 := Lib.hid hq0
  have HQ1 := Lib.hid hq1
  clear hq0 hq1 ls lm lq0
  have HA1 := Lib.hid hadd1
  have HA2 := Lib.hid hadd2
  clear hadd1 hadd2 hset hmask
  go_upto_region 7 with fail
  go_cut [] (fun wy => PW w r (w1.heap.size + 1) (x0 ++ (if r.ret then [wReturn] else [])) wy)
  case first =>
    have ek : w.heap.size < wc.heap.size := blk_lt' HS.out.row; have e1 : wc.cell? ⟨w.heap.size, 1, none⟩ = (ruleC r)[1]? := pw_cell HS.out 1; rw [rc1] at e1
    go_wp2_with (go_at_call 128; (with_reducible refine (add_any HS.out HLW.out _ [wReturn] ?_ ?_ _ ?_ 1 ?_).mono ?_); exact List.cons_ne_nil _ _; (simp; omega); rfl; rfl; rintro e V ⟨rfl, hp⟩; rw [ite_add] at hp; have HP := Lib.hid hp; clear hp)
    go_meet
    case rel => exact HP.out
  case rest =>
  have HS := Lib.hid hcut
  clear hcut
  generalize hx1 : x0 ++ (if r.ret then [wReturn] else []) = x1 at HS
  have hxl1 : x1.length ≤ 2 := by rw [← hx1, List.length_append]; split <;> simp <;> omega
  have HX1 := Lib.hid hx1
  clear hx1 hxl
  go_upto_region 8 with fail
  go_cut [] (fun wy => PW w r (w1.heap.size + 1) (x1 ++ (if r.quick then [wQuick] else [])) wy)
  case first =>
    have ek : w.heap.size < wc.heap.size := blk_lt' HS.out.row; have e2 : wc.cell? ⟨w.heap.size, 2, none⟩ = (ruleC r)[2]? := pw_cell HS.out 2; rw [rc2] at e2
    go_wp2_with (go_at_call 128; (with_reducible refine (add_any HS.out HLW.out _ [wQuick] ?_ ?_ _ ?_ 1 ?_).mono ?_); exact List.cons_ne_nil _ _; (simp; omega); rfl; rfl; rintro e V ⟨rfl, hp⟩; rw [ite_add] at hp; have HP := Lib.hid hp; clear hp)
    go_meet
    case rel => exact HP.out
  case rest =>
  have HS := Lib.hid hcut
  clear hcut
  generalize hx2 : x1 ++ (if r.quick then [wQuick] else []) = x2 at HS
  have hxl2 : x2.length ≤ 3 := by rw [← hx2, List.length_append]; split <;> simp <;> omega
  have HX2 := Lib.hid hx2
  clear hx2 hxl1
  go_upto_region 9 with fail
  go_cut [] (fun wy => PW w r (w1.heap.size + 1) (x2 ++ (if (!r.on.isEmpty) then [wOn, r.on] else [])) wy)
  case first =>
    have ek : w.heap.size < wc.heap.size := blk_lt' HS.out.row; have e3 : wc.cell? ⟨w.heap.size, 3, none⟩ = (ruleC r)[3]? := pw_cell HS.out 3; rw [rc3] at e3
    go_wp2_with (go_at_call 128; (with_reducible refine (add_any HS.out HLW.out _ [wOn, r.on] ?_ ?_ _ ?_ 2 ?_).mono ?_); exact List.cons_ne_nil _ _; (simp; omega); rfl; rfl; rintro e V ⟨rfl, hp⟩; rw [ite_add] at hp; have HP := Lib.hid hp; clear hp)
    go_meet
    case rel => exact HP.out
  case rest =>
  have HS := Lib.hid hcut
  clear hcut
  generalize hx3 : x2 ++ (if (!r.on.isEmpty) then [wOn, r.on] else []) = x3 at HS
  have hxl3 : x3.length ≤ 5 := by rw [← hx3, List.length_append]; split <;> simp <;> omega
  have HX3 := Lib.hid hx3
  clear hx3 hxl2
  go_upto_region 10 with fail
  go_cut [] (fun wy => PW w r (w1.heap.size + 1) (x3 ++ (if (r.proto != 0) then [wProto, protoW r.proto] else [])) wy)
  case first =>
    have HSd := Lib.hid (pw_below HS.out (Below.refl _ _).drew)
    have D := s10 HSd.out
    go_region_held3 (fun w' => w'.cell? ⟨w.heap.size, 4, none⟩ = some (.int .i64 r.proto) ∧ w.heap.size < w'.heap.size ∧ PA w r (w1.heap.size + 1) w') (first | exact D | exact k10 (by assumption) (by assumption) | exact k10 (bnew _ _) (by assumption) | exact s10 (by assumption))
      (first
        | (go_at_call 129; (with_reducible refine (KP.out _ (z10 (by assumption))).mono ?_); rintro e v2 ⟨rfl, hb0⟩; have HS2 := Lib.hid (pw_below HSd.out hb0))
        | (go_at_call 128; (with_reducible refine (add_any HS2.out HLW.out _ [wProto, protoW r.proto] ?_ ?_ _ ?_ 2 ?_).mono ?_); exact List.cons_ne_nil _ _; (simp; omega); rfl; rfl; rintro e V ⟨rfl, hp⟩; rw [ite_add] at hp; have HP := Lib.hid hp))
    all_goals (go_wp2_with fail; go_meet)
    all_goals (case rel => exact HP.out)
  case rest =>
  have HS := Lib.hid hcut
  clear hcut
  generalize hx4 : x3 ++ (if (r.proto != 0) then [wProto, protoW r.proto] else []) = x4 at HS
  have hxl4 : x4.length ≤ 7 := by rw [← hx4, List.length_append]; split <;> simp <;> omega
  have HX4 := Lib.hid hx4
  clear hx4 hxl3
  go_upto_region 11 with fail
  go_cut [] (fun wy => PW w r (w1.heap.size + 1) (x4 ++ [wFrom, spaced (tkS r.frm), wTo, spaced (tkS r.dst)]) wy)
  case first =>
    have HSd := Lib.hid (pw_below HS.out (Below.refl _ _).drew)
    have D := s11 HSd.out
    go_region_held3 (fun w' => w'.cell? ⟨w.heap.size, 5, none⟩ = some (.bool r.frm.any) ∧ w'.cell? ⟨w.heap.size, 6, none⟩ = some (.string ⟨r.frm.table.toArray⟩) ∧ w'.cell? ⟨w.heap.size, 7, none⟩ = some (.int .u32 (r.frm.pfx.addr : Nat)) ∧ w'.cell? ⟨w.heap.size, 8, none⟩ = some (.int .i64 r.frm.pfx.len) ∧ w'.cell? ⟨w.heap.size, 9, none⟩ = some (.int .i64 r.frm.low) ∧ w'.cell? ⟨w.heap.size, 10, none⟩ = some (.int .i64 r.frm.high) ∧ w'.cell? ⟨w.heap.size, 11, none⟩ = some (.bool r.dst.any) ∧ w'.cell? ⟨w.heap.size, 12, none⟩ = some (.string ⟨r.dst.table.toArray⟩) ∧ w'.cell? ⟨w.heap.size, 13, none⟩ = some (.int .u32 (r.dst.pfx.addr : Nat)) ∧ w'.cell? ⟨w.heap.size, 14, none⟩ = some (.int .i64 r.dst.pfx.len) ∧ w'.cell? ⟨w.heap.size, 15, none⟩ = some (.int .i64 r.dst.low) ∧ w'.cell? ⟨w.heap.size, 16, none⟩ = some (.int .i64 r.dst.high) ∧ w.heap.size < w'.heap.size ∧ PA w r (w1.heap.size + 1) w') (first | exact D | exact k11 (by assumption) (by assumption) | exact k11 (bnew _ _) (by assumption) | exact s11 (by assumption))
      (first
        | (go_at_call 130; (with_reducible refine (KF.out _ (z11 (by assumption))).mono ?_); rintro e v2 ⟨rfl, hb0⟩; have HS2 := Lib.hid (pw_below HSd.out hb0))
        | (go_at_call 130; (with_reducible refine (KD.out _ (z11 (by assumption))).mono ?_); rintro e v3 ⟨rfl, hb1⟩; have HS3 := Lib.hid (pw_below HS2.out hb1))
        | (go_at_call 128; (with_reducible refine (add_any HS3.out HLW.out _ [wFrom, spaced (tkS r.frm), wTo, spaced (tkS r.dst)] ?_ ?_ _ ?_ 4 ?_).mono ?_); exact List.cons_ne_nil _ _; (simp; omega); rfl; rfl; rintro e V ⟨rfl, hp⟩; rw [ite_add] at hp; have HP := Lib.hid hp))
    all_goals (go_wp2_with fail; go_meet)
    all_goals (case rel => exact HP.out)
  case rest =>
  have HS := Lib.hid hcut
  clear hcut
  generalize hx5 : x4 ++ [wFrom, spaced (tkS r.frm), wTo, spaced (tkS r.dst)] = x5 at HS
  have hxl5 : x5.length ≤ 11 := by rw [← hx5, List.length_append]; simp; omega
  have HX5 := Lib.hid hx5
  clear hx5 hxl4
  go_upto_region 12 with fail
  go_cut [] (fun wy => PW w r (w1.heap.size + 1) (x5 ++ (if (r.mask != 0) then [wFlags, q1] else [])) wy)
  case first =>
    have HSd := Lib.hid (pw_below HS.out (Below.refl _ _).drew)
    have D := s12 HSd.out
    go_region_held3 (fun w' => w'.cell? ⟨w.heap.size, 17, none⟩ = some (.int .i64 r.set) ∧ w'.cell? ⟨w.heap.size, 18, none⟩ = some (.int .i64 r.mask) ∧ w.heap.size < w'.heap.size ∧ PA w r (w1.heap.size + 1) w') (first | exact D | exact k12 (by assumption) (by assumption) | exact k12 (bnew _ _) (by assumption) | exact s12 (by assumption))
      (first
        | (go_at_call 131; (with_reducible refine (KS.out _).mono ?_); rintro e v2 ⟨rfl, hb0⟩; have HS2 := Lib.hid (pw_below HSd.out hb0); have a1 := HA1.out; have a2 := HA2.out)
        | (go_at_call 131; (with_reducible refine (KM.out _).mono ?_); rintro e v3 ⟨rfl, hb1⟩; have HS3 := Lib.hid (pw_below HS2.out hb1); have a1 := HA1.out; have a2 := HA2.out)
        | (go_at_call 128; (with_reducible refine (add_any HS3.out HLW.out _ [wFlags, q1] ?_ ?_ _ ?_ 2 ?_).mono ?_); exact List.cons_ne_nil _ _; (simp; omega); rfl; rfl; rintro e V ⟨rfl, hp⟩; rw [ite_add] at hp; have HP := Lib.hid hp))
    all_goals (go_wp2_with fail; go_meet)
    all_goals (case rel => exact HP.out)
  case rest =>
  have HS := Lib.hid hcut
  clear hcut
  generalize hx6 : x5 ++ (if (r.mask != 0) then [wFlags, q1] else []) = x6 at HS
  have hxl6 : x6.length ≤ 13 := by rw [← hx6, List.length_append]; split <;> simp <;> omega
  have HX6 := Lib.hid hx6
  clear hx6 hxl5
  go_upto_region 13 with fail
  go_cut [] (fun wy => PW w r (w1.heap.size + 1) (x6 ++ (if (r.typ != -1) then [wType, Lib.itoa r.typ] else [])) wy)
  case first =>
    have HSd := Lib.hid (pw_below HS.out (Below.refl _ _).drew)
    have D := s13 HSd.out
    go_region_held3 (fun w' => w'.cell? ⟨w.heap.size, 19, none⟩ = some (.int .i64 r.typ) ∧ w.heap.size < w'.heap.size ∧ PA w r (w1.heap.size + 1) w') (first | exact D | exact k13 (by assumption) (by assumption) | exact k13 (bnew _ _) (by assumption) | exact s13 (by assumption))
      (first
        | (go_at_call 75; (with_reducible refine (KT.out _ (z13 (by assumption))).mono ?_); rintro e v2 ⟨rfl, hb0⟩; have HS2 := Lib.hid (pw_below HSd.out hb0))
        | (go_at_call 128; (with_reducible refine (add_any HS2.out HLW.out _ [wType, Lib.itoa r.typ] ?_ ?_ _ ?_ 2 ?_).mono ?_); exact List.cons_ne_nil _ _; (simp; omega); rfl; rfl; rintro e V ⟨rfl, hp⟩; rw [ite_add] at hp; have HP := Lib.hid hp))
    all_goals (go_wp2_with fail; go_meet)
    all_goals (case rel => exact HP.out)
  case rest =>
  have HS := Lib.hid hcut
  clear hcut
  generalize hx7 : x6 ++ (if (r.typ != -1) then [wType, Lib.itoa r.typ] else []) = x7 at HS
  have hxl7 : x7.length ≤ 15 := by rw [← hx7, List.length_append]; split <;> simp <;> omega
  have HX7 := Lib.hid hx7
  clear hx7 hxl6
  go_upto_region 14 with fail
  go_cut [] (fun wy => PW w r (w1.heap.size + 1) (x7 ++ (if r.keep then [wKeep] else [])) wy)
  case first =>
    have ek : w.heap.size < wc.heap.size := blk_lt' HS.out.row; have e20 : wc.cell? ⟨w.heap.size, 20, none⟩ = (ruleC r)[20]? := pw_cell HS.out 20; rw [rc20] at e20
    go_wp2_with (go_at_call 128; (with_reducible refine (add_any HS.out HLW.out _ [wKeep] ?_ ?_ _ ?_ 1 ?_).mono ?_); exact List.cons_ne_nil _ _; (simp; omega); rfl; rfl; rintro e V ⟨rfl, hp⟩; rw [ite_add] at hp; have HP := Lib.hid hp; clear hp)
    go_meet
    case rel => exact HP.out
  case rest =>
  have HS := Lib.hid hcut
  clear hcut
  generalize hx8 : x7 ++ (if r.keep then [wKeep] else []) = x8 at HS
  have hxl8 : x8.length ≤ 16 := by rw [← hx8, List.length_append]; split <;> simp <;> omega
  have HX8 := Lib.hid hx8
  clear hx8 hxl7
  go_upto_region 15 with fail
  go_cut [] (fun wy => PW w r (w1.heap.size + 1) (x8 ++ (if r.routeTo.on then [wRoute, r.routeTo.iface, printL r.routeTo.gate] else [])) wy)
  case first =>
    have HSd := Lib.hid (pw_below HS.out (Below.refl _ _).drew)
    have D := s15 HSd.out
    go_region_held3 (fun w' => w'.cell? ⟨w.heap.size, 21, none⟩ = some (.bool r.routeTo.on) ∧ w'.cell? ⟨w.heap.size, 22, none⟩ = some (.string ⟨r.routeTo.iface.toArray⟩) ∧ w'.cell? ⟨w.heap.size, 23, none⟩ = some (.int .u32 (r.routeTo.gate : Nat)) ∧ w.heap.size < w'.heap.size ∧ PA w r (w1.heap.size + 1) w') (first | exact D | exact k15 (by assumption) (by assumption) | exact k15 (bnew _ _) (by assumption) | exact s15 (by assumption))
      (first
        | (go_at_call 127; (with_reducible refine (KR.out _ (z15 (by assumption))).mono ?_); rintro e v2 ⟨rfl, hb0⟩; have HS2 := Lib.hid (pw_below HSd.out hb0))
        | (go_at_call 128; (with_reducible refine (add_any HS2.out HLW.out _ [wRoute, r.routeTo.iface, printL r.routeTo.gate] ?_ ?_ _ ?_ 3 ?_).mono ?_); exact List.cons_ne_nil _ _; (simp; omega); rfl; rfl; rintro e V ⟨rfl, hp⟩; rw [ite_add] at hp; have HP := Lib.hid hp))
    all_goals (go_wp2_with fail; go_meet)
    all_goals (case rel => exact HP.out)
  case rest =>
  have HS := Lib.hid hcut
  clear hcut
  generalize hx9 : x8 ++ (if r.routeTo.on then [wRoute, r.routeTo.iface, printL r.routeTo.gate] else []) = x9 at HS
  have hxl9 : x9.length ≤ 19 := by rw [← hx9, List.length_append]; split <;> simp <;> omega
  have HX9 := Lib.hid hx9
  clear hx9 hxl8
  go_upto_region 16 with fail
  go_cut [] (fun wy => PW w r (w1.heap.size + 1) (x9 ++ (if r.replyTo.on then [wReply, r.replyTo.iface, printL r.replyTo.gate] else [])) wy)
  case first =>
    have HSd := Lib.hid (pw_below HS.out (Below.refl _ _).drew)
    have D := s16 HSd.out
    go_region_held3 (fun w' => w'.cell? ⟨w.heap.size, 24, none⟩ = some (.bool r.replyTo.on) ∧ w'.cell? ⟨w.heap.size, 25, none⟩ = some (.string ⟨r.replyTo.iface.toArray⟩) ∧ w'.cell? ⟨w.heap.size, 26, none⟩ = some (.int .u32 (r.replyTo.gate : Nat)) ∧ w.heap.size < w'.heap.size ∧ PA w r (w1.heap.size + 1) w') (first | exact D | exact k16 (by assumption) (by assumption) | exact k16 (bnew _ _) (by assumption) | exact s16 (by assumption))
      (first
        | (go_at_call 127; (with_reducible refine (KY.out _ (z16 (by assumption))).mono ?_); rintro e v2 ⟨rfl, hb0⟩; have HS2 := Lib.hid (pw_below HSd.out hb0))
        | (go_at_call 128; (with_reducible refine (add_any HS2.out HLW.out _ [wReply, r.replyTo.iface, printL r.replyTo.gate] ?_ ?_ _ ?_ 3 ?_).mono ?_); exact List.cons_ne_nil _ _; (simp; omega); rfl; rfl; rintro e V ⟨rfl, hp⟩; rw [ite_add] at hp; have HP := Lib.hid hp))
    all_goals (go_wp2_with fail; go_meet)
    all_goals (case rel => exact HP.out)
  case rest =>
  have HS := Lib.hid hcut
  clear hcut
  generalize hx10 : x9 ++ (if r.replyTo.on then [wReply, r.replyTo.iface, printL r.replyTo.gate] else []) = x10 at HS
  have hxl10 : x10.length ≤ 22 := by rw [← hx10, List.length_append]; split <;> simp <;> omega
  have HX10 := Lib.hid hx10
  clear hx10 hxl9
  go_upto_region 17 with fail
  go_cut [] (fun wy => PW w r (w1.heap.size + 1) (x10 ++ (if (r.table != 0) then [wTable, Lib.itoa r.table] else [])) wy)
  case first =>
    have HSd := Lib.hid (pw_below HS.out (Below.refl _ _).drew)
    have D := s17 HSd.out
    go_region_held3 (fun w' => w'.cell? ⟨w.heap.size, 27, none⟩ = some (.int .i64 r.table) ∧ w.heap.size < w'.heap.size ∧ PA w r (w1.heap.size + 1) w') (first | exact D | exact k17 (by assumption) (by assumption) | exact k17 (bnew _ _) (by assumption) | exact s17 (by assumption))
      (first
        | (go_at_call 75; (with_reducible refine (KB.out _ (z17 (by assumption))).mono ?_); rintro e v2 ⟨rfl, hb0⟩; have HS2 := Lib.hid (pw_below HSd.out hb0))
        | (go_at_call 128; (with_reducible refine (add_any HS2.out HLW.out _ [wTable, Lib.itoa r.table] ?_ ?_ _ ?_ 2 ?_).mono ?_); exact List.cons_ne_nil _ _; (simp; omega); rfl; rfl; rintro e V ⟨rfl, hp⟩; rw [ite_add] at hp; have HP := Lib.hid hp))
    all_goals (go_wp2_with fail; go_meet)
    all_goals (case rel => exact HP.out)
  case rest =>
  have HS := Lib.hid hcut
  clear hcut
  generalize hx11 : x10 ++ (if (r.table != 0) then [wTable, Lib.itoa r.table] else []) = x11 at HS
  have hxl11 : x11.length ≤ 24 := by rw [← hx11, List.length_append]; split <;> simp <;> omega
  have HX11 := Lib.hid hx11
  clear hx11 hxl10
  have hne : 0 < x11.length := by
    rw [List.length_pos_iff]
    rintro rfl
    have := chunks r x0 x1 x2 x3 x4 x5 x6 x7 x8 x9 x10 [] HX0.out HX1.out HX2.out HX3.out HX4.out HX5.out (by rw [HVS.out, HVM.out, HQ0.out, HQ1.out]; exact HX6.out) HX7.out HX8.out HX9.out HX10.out HX11.out
    exact spaced_tokens_ne r this.symm
  have HC := Lib.hid (chunks r x0 x1 x2 x3 x4 x5 x6 x7 x8 x9 x10 x11 HX0.out HX1.out HX2.out HX3.out HX4.out HX5.out (by rw [HVS.out, HVM.out, HQ0.out, HQ1.out]; exact HX6.out) HX7.out HX8.out HX9.out HX10.out HX11.out)
  have hln : (spaced x11).length ≤ 300 := by rw [HC.out]; exact printed_len r h hr
  obtain ⟨v, c0, KJ⟩ := join_pw HS.out hne (by omega) hln
  have HJ := Lib.hid KJ
  clear KJ hne hln
  go_wp2_with (go_at_call 74; (with_reducible refine HJ.out.mono ?_); rintro e w2 ⟨rfl, hb2⟩; have HB := Lib.hid (bstep HS.out.low hb2 HS.out.low.size); clear hb2)
  go_ret
  exact ⟨by rw [← HC.out]; rfl, HB.out⟩
set_option maxRecDepth 100000 in
theorem print_not (r : RuleM) (h : Fits r) (hr : ruleR r = false) (w : World) :
    Calls Tryz.prog 78 #[.agg (ruleC r)] w fun e w' => e = .returned (.string ⟨#[]⟩) ∧ Below w.heap.size w w' := by
  have hs := rules_same r h.set.1 h.set.2
  rw [hr] at hs
  have KI := Lib.hid (fun W => isP_any r h W)
  rw [hs] at KI
  have HB := Lib.hid (bnew w (.cells (ruleC r) 75))
  have HR := Lib.hid (heap_alloc_new w (.cells (ruleC r) 75))
  have HI32 := Lib.hid (info32 r)
  clear hs
  go_enter Tryz.func78, Tryz.ntmps78
  go_wp2_with (first
    | ((with_reducible refine Mem.load_row w.heap.size ?_ HR.out Tryz.underlying75 HI32.out ?_ ?_); rfl; rfl)
    | (go_at_call 47; (with_reducible refine (KI.out _).mono ?_); rintro e w1 ⟨rfl, hb1⟩; have HB := Lib.hid (bstep HB.out hb1 HB.out.size); clear hb1))
  go_ret
  exact ⟨rfl, HB.out⟩
theorem print_said : PrintSaid := fun r h w hl => by
  unfold printed
  cases hr : ruleR r with
  | true => exact print_any r h hr w hl
  | false => exact print_not r h hr w
end Go.Proofs.YtnmbbnhgoedjgaaGreatDoor.RuV

