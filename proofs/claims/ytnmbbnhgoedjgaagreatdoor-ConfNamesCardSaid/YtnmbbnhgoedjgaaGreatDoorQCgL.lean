/- conf.printed's closure: a line of words goes into the builder. -/
import Derived.Test.YtnmbbnhgoedjgaaGreatDoorQCgB
import Derived.Test.YtnmbbnhgoedjgaaGreatDoorQCf4
import Derived.Test.YtnmbbnhgoedjgaaGreatDoorQRu5
namespace Go.Proofs.YtnmbbnhgoedjgaaGreatDoor.CgL
open Go Go.RowKit Go.Proofs.YtnmbbnhgoedjgaaGreatDoor.CgB Go.Proofs.YtnmbbnhgoedjgaaGreatDoor.Cf4 Go.Proofs.YtnmbbnhgoedjgaaGreatDoor.St2 Go.Proofs.YtnmbbnhgoedjgaaGreatDoor.Ru0 Go.Proofs.YtnmbbnhgoedjgaaGreatDoor.Ru4 Go.Proofs.YtnmbbnhgoedjgaaGreatDoor.Ru5
set_option linter.unusedVariables false
set_option linter.unusedSimpArgs false
/-- The builder. -/
abbrev Bld (B b : Nat) (l : Wd) (w : World) : Prop := Lib.IsBuilder 120 5 B b (Lib.byteCells l) w
theorem Bld.below {B b : Nat} {l : Wd} {w w' : World} (h : Bld B b l w) (hb : Below w.heap.size w w') : Bld B b l w' := by
  have one : ∀ p, Lib.BuilderAt 120 5 B b p (Lib.byteCells l) w → Lib.BuilderAt 120 5 B b p (Lib.byteCells l) w' := by
    rintro p ⟨hB, v, hbk, hown, hne⟩
    have hlt : ∀ k c, w.heap[k]? = some c → k < w.heap.size := fun k c h => (Array.getElem?_eq_some_iff.1 h).1
    refine ⟨hB, v, (hb.block _ (hlt _ _ hbk)).trans hbk, ⟨hown.1, ?_⟩, hne⟩
    rcases hown.2 with h' | ⟨g, cap, cur, e, h1, h2, h3⟩
    · exact .inl h'
    · exact .inr ⟨g, cap, cur, e, h1, (hb.block _ (hlt _ _ h2)).trans h2, h3⟩
  rcases h with h | h
  · exact .inl (one _ h)
  · exact .inr (one _ h)
theorem strs_at (ws : List Wd) (j : Nat) (x : ByteArray) (h : (ws.map fun w => (⟨w.toArray⟩ : ByteArray))[j]? = some x) : (ws.map fun w => Value.string ⟨w.toArray⟩)[j]? = some (.string x) := by
  rw [List.getElem?_map] at h ⊢
  cases hw : ws[j]? with
  | none => rw [hw] at h; cases h
  | some a => rw [hw] at h; simp at h; subst h; rfl
set_option maxHeartbeats 1000000 in
theorem line_any (B b : Nat) (l : Wd) (ws : List Wd) (hne : ws ≠ []) (v : Value) (W : World) (hb : Bld B b l W) (hS : Sl W v ws.length (ws.map fun w => .string ⟨w.toArray⟩)) (hB : B ≤ W.heap.size) (hn : ws.length ≤ 1048576) (hlen : l.length + (spaced ws).length + 1 ≤ 140737488355328) :
    Calls Tryz.prog 72 #[v, .pointer (some ⟨b, 0, none⟩)] W fun e w' => e = .returned (.tuple #[]) ∧ Bld B b (l ++ (spaced ws ++ [10])) w' ∧ Below B W w' ∧ Kept b W w' := by
  obtain ⟨A, cap, rfl, hcap, h⟩ := hS
  rcases h with ⟨h0, _⟩ | ⟨bk, o, rfl, hbk, hr⟩
  · exact (hne (List.length_eq_zero_iff.1 h0)).elim
  have hm : (ws.map fun w => (⟨w.toArray⟩ : ByteArray)).map (·.data.toList) = ws := by rw [List.map_map]; exact List.map_id' ws
  have hj := Tryz.strings_Join bk o cap (ws.map fun w => ⟨w.toArray⟩) ⟨#[32]⟩ W (fun j x hx => hr j _ (strs_at ws j x hx)) hbk (by rw [List.length_map]; omega) (by rw [List.length_map]; omega) (by
    rw [hm, show (⟨#[32]⟩ : ByteArray).data.toList = [32] from rfl, join_spaced]; omega)
  rw [hm, show (⟨#[32]⟩ : ByteArray).data.toList = [32] from rfl, join_spaced, List.length_map] at hj
  have HJ := Lib.hid hj
  have HB := Lib.hid hb
  have KW := Lib.hid (fun w1 (h1 : Below W.heap.size W w1) => write_any B b (Lib.byteCells l) ⟨(spaced ws ++ [10]).toArray⟩ w1 (Bld.below HB.out h1) (by rw [Lib.byteCells_length]; simp [ByteArray.size]; omega) (Nat.le_trans hB h1.size))
  have e1 : Lib.byteCells l ++ Lib.strCells ⟨(spaced ws ++ [10]).toArray⟩ = Lib.byteCells (l ++ (spaced ws ++ [10])) := (Lib.byteCells_append l (spaced ws ++ [10])).symm
  rw [e1] at KW
  have e2 : (⟨(spaced ws ++ [10]).toArray⟩ : ByteArray) = ⟨(spaced ws).toArray⟩ ++ ⟨#[10]⟩ := by
    apply ByteArray.ext
    simp [ByteArray.data_append]
  rw [e2] at KW
  have hl1 : (spaced ws).length + 1 ≤ 9223372036854775807 := by omega
  have hl2 : (spaced ws).toArray.size + 1 ≤ 9223372036854775807 := by simpa using hl1
  clear hj hb hr hm e1 e2 hlen
  generalize spaced ws = t at *
  go_enter Tryz.func72, Tryz.ntmps72
  go_wp2_with (first
    | (go_at_call 74; refine HJ.out.mono ?_; rintro e w1 ⟨rfl, hb1⟩; have HX := Lib.hid hb1; clear hb1)
    | (go_at_call 73; (with_reducible refine (KW.out _ HX.out).mono ?_); rintro e w2 ⟨rfl, h2, hb2, hk2⟩; have HY : Hid (_ ∧ _ ∧ _) := ⟨h2, hb2, hk2⟩; clear h2 hb2 hk2))
  go_end0
  exact ⟨rfl, .inr HY.out.1, (HX.out.mono hB).trans HY.out.2.1, (Kept.of_below HX.out).trans HY.out.2.2⟩
end Go.Proofs.YtnmbbnhgoedjgaaGreatDoor.CgL

