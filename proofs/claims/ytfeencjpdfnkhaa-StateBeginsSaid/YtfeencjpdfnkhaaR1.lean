/- The rows of StateRuns, StateShakes, StateBegins and StateTells: whatever the arguments, the law returns true and the arguments read as they did. No condition. -/
import Derived.Test.YtfeencjpdfnkhaaRows
import Derived.Test.YtfeencjpdfnkhaaB0
import Derived.Test.YtfeencjpdfnkhaaA4
import Derived.Deep.Grids
namespace Go.Proofs.Ytfeencjpdfnkhaa.R1
set_option linter.unusedVariables false
set_option linter.unusedSimpArgs false
open Go Go.RowKit Go.ChangeShapes Go.WideShapes Go.ChangeAt Go.Deep
open Go.Proofs.Ytfeencjpdfnkhaa.B0 Go.Proofs.Ytfeencjpdfnkhaa.S1 Go.Proofs.Ytfeencjpdfnkhaa.S2 Go.Proofs.Ytfeencjpdfnkhaa.S3 Go.Proofs.Ytfeencjpdfnkhaa.A3 Go.Proofs.Ytfeencjpdfnkhaa.A4

theorem own : ownKnob Try.prog.godebug = none := by kernel_rfl
theorem laidOut : laidOutB Try.prog = true := by kernel_rfl

section
variable {H : Type} {enc : TypeId × Value → H}
theorem reads_bools {W : World} {t e : TypeId} {b : Nat} {v : Value} {d : DataW H} {p : List MemPlace} (ht : Try.prog.underlying t = some (.slice e)) (he : Try.prog.underlying e = some .bool) (hc : Try.prog.cellsOf e = 1)
    (hv : Value.okWide Try.prog W .any b t v) (h : DataW.Trod enc Try.prog W 0 (fun _ => true) true t v d p) : ∃ A bs c, v = .slice A bs.length c ∧ bs.length ≤ maxLen ∧ ReadsB W A bs := by
  obtain ⟨A, len, cap, rfl⟩ := okWide_slice ht hv
  obtain ⟨fuel, hf⟩ := h
  rcases open_bools ht he hc hf with ⟨hcs, _⟩ | ⟨x, l, c, B, hcs, _, hl, hm, _, hcell⟩
  · simp [Value.cells] at hcs
    obtain ⟨rfl, rfl, rfl⟩ := hcs
    exact ⟨none, [], 0, rfl, by simp, fun i hi => by simp at hi⟩
  · simp [Value.cells] at hcs
    obtain ⟨rfl, rfl, rfl⟩ := hcs
    refine ⟨some x, (List.range len).map B, cap, by simp, by simp; omega, fun i hi => ⟨x, rfl, ?_⟩⟩
    have hi' : i < len := by simpa using hi
    rw [hcell i (by omega)]
    simp [List.getD_eq_getElem?_getD, hi']
theorem reads_ints {W : World} {t e : TypeId} {b : Nat} {v : Value} {d : DataW H} {p : List MemPlace} (ht : Try.prog.underlying t = some (.slice e)) (he : Try.prog.underlying e = some (.int .i64)) (hc : Try.prog.cellsOf e = 1)
    (hv : Value.okWide Try.prog W .any b t v) (h : DataW.Trod enc Try.prog W 0 (fun _ => true) true t v d p) : ∃ A xs c, v = .slice A xs.length c ∧ xs.length ≤ maxLen ∧ ReadsI W A xs := by
  obtain ⟨A, len, cap, rfl⟩ := okWide_slice ht hv
  obtain ⟨fuel, hf⟩ := h
  rcases open_ints ht he hc hf with ⟨hcs, _⟩ | ⟨x, l, c, zs, hcs, _, hl, hm, hz, _, hcell, hwz⟩
  · simp [Value.cells] at hcs
    obtain ⟨rfl, rfl, rfl⟩ := hcs
    exact ⟨none, [], 0, rfl, by simp, fun i hi => by simp at hi⟩
  · simp [Value.cells] at hcs
    obtain ⟨rfl, rfl, rfl⟩ := hcs
    simp only [if_true] at hz
    refine ⟨some x, zs.take len, cap, by simp; omega, by simp; omega, fun i hi => ⟨x, rfl, ?_⟩⟩
    have hi' : i < len := by simp at hi; omega
    rw [hcell i (by omega)]
    simp [List.getD_eq_getElem?_getD, List.getElem?_take, hi']
end

set_option maxRecDepth 100000 in
theorem runs_lifted (os : Os) (started : os.Started) (H : Type) (enc : TypeId × Value → H) :
    ReturnsInHanded {} Try.checked os 3 .any (Rows.stateRunsSpec.pre6 enc Try.prog Try.f3 Rows.stateRunsRow.domain false) (Rows.stateRunsSpec.post enc Try.prog Try.f3 false true false false) :=
  law_lifted (C := Try.checked) own started (by kernel_rfl) Try.func3
    (ChangeSpec.witness6 (enc := enc) (C := Try.checked) false ⟨#[], #[.slice none 0 0, .slice none 0 0], []⟩ 8 (by kernel_rfl) (by kernel_rfl) (by kernel_rfl) (by kernel_rfl))
    rfl laidOut (by kernel_rfl) rfl Try.underlying4
    (fun ds h => by match ds, h with | [d1, d2], _ => rfl)
    (fun W base args ds p hval hA _ => by
      rw [Try.params3] at hA hval
      obtain ⟨v0, vs0, d0, ds0, p0, q0, hargs, rfl, rfl, h0, r0⟩ := trodAll_cons hA
      obtain ⟨v1, vs1, d1, ds1, p1, q1, rfl, rfl, rfl, h1, r1⟩ := trodAll_cons r0
      obtain ⟨rfl, rfl, rfl⟩ := trodAll_nil r1
      obtain rfl : args = #[v0, v1] := by cases args; simp_all
      obtain ⟨A, bs, c, rfl, hm, hr⟩ := reads_bools Try.underlying22 Try.underlying4 (by kernel_rfl) (hval 0 22 v0 rfl rfl) h0
      obtain ⟨B, xs, d, rfl, hm2, hq⟩ := reads_ints Try.underlying23 Try.underlying3 (by kernel_rfl) (hval 1 23 v1 rfl rfl) h1
      exact runs_walk A B c d bs xs W hm hm2 hr hq)
theorem runs_over : Rows.stateRunsRow.holds Try.pinned (OpenSpec.ofChange Rows.stateRunsSpec) :=
  OpenClaim.holds_of_wide 3 Try.f3 rfl rfl rfl rfl rfl rfl rfl ⟨rfl, rfl, rfl, rfl, rfl⟩ rfl rfl rfl rfl rfl (by kernel_rfl) Try.func3 (by kernel_rfl)
    (of_decide_eq_true (by kernel_rfl)) (by unfold Func.isWrapper; first | (rw [if_pos (by decide +kernel)]; kernel_rfl) | (rw [if_neg (by decide +kernel)]; exact ⟨rfl, rfl⟩))
    (fun os started H enc _ => runs_lifted os started H enc)

set_option maxRecDepth 100000 in
theorem shakes_lifted (os : Os) (started : os.Started) (H : Type) (enc : TypeId × Value → H) :
    ReturnsInHanded {} Try.checked os 4 .any (Rows.stateShakesSpec.pre6 enc Try.prog Try.f4 Rows.stateShakesRow.domain false) (Rows.stateShakesSpec.post enc Try.prog Try.f4 false true false false) :=
  law_lifted (C := Try.checked) own started (by kernel_rfl) Try.func4
    (ChangeSpec.witness6 (enc := enc) (C := Try.checked) false ⟨#[], #[.slice none 0 0, .bool false], []⟩ 8 (by kernel_rfl) (by kernel_rfl) (by kernel_rfl) (by kernel_rfl))
    rfl laidOut (by kernel_rfl) rfl Try.underlying4
    (fun ds h => by match ds, h with | [d1, d2], _ => rfl)
    (fun W base args ds p hval hA _ => by
      rw [Try.params4] at hA hval
      obtain ⟨v0, vs0, d0, ds0, p0, q0, hargs, rfl, rfl, h0, r0⟩ := trodAll_cons hA
      obtain ⟨v1, vs1, d1, ds1, p1, q1, rfl, rfl, rfl, h1, r1⟩ := trodAll_cons r0
      obtain ⟨rfl, rfl, rfl⟩ := trodAll_nil r1
      obtain rfl : args = #[v0, v1] := by cases args; simp_all
      obtain ⟨A, bs, c, rfl, hm, hr⟩ := reads_bools Try.underlying22 Try.underlying4 (by kernel_rfl) (hval 0 22 v0 rfl rfl) h0
      obtain ⟨x, rfl, rfl, rfl⟩ := open_bool Try.underlying4 (hval 1 4 v1 rfl rfl) h1
      exact (shakes_walk A c bs x W hm hr).mono fun _ _ ⟨he, hw⟩ => ⟨he, hw ▸ Below.refl _ _⟩)
theorem shakes_over : Rows.stateShakesRow.holds Try.pinned (OpenSpec.ofChange Rows.stateShakesSpec) :=
  OpenClaim.holds_of_wide 4 Try.f4 rfl rfl rfl rfl rfl rfl rfl ⟨rfl, rfl, rfl, rfl, rfl⟩ rfl rfl rfl rfl rfl (by kernel_rfl) Try.func4 (by kernel_rfl)
    (of_decide_eq_true (by kernel_rfl)) (by unfold Func.isWrapper; first | (rw [if_pos (by decide +kernel)]; kernel_rfl) | (rw [if_neg (by decide +kernel)]; exact ⟨rfl, rfl⟩))
    (fun os started H enc _ => shakes_lifted os started H enc)

theorem begins_all (f : Int) (w : World) : Calls Try.prog 7 #[.int .i64 f] w fun e w' => e = .returned (.bool true) ∧ Below w.heap.size w w' := by
  by_cases h0 : f < 0
  · exact begins_low f w h0
  · by_cases h1 : 63 < f
    · exact begins_high f w h0 h1
    · exact begins_in f w h0 h1 _ _ rfl rfl

set_option maxRecDepth 100000 in
theorem begins_lifted (os : Os) (started : os.Started) (H : Type) (enc : TypeId × Value → H) :
    ReturnsInHanded {} Try.checked os 7 .any (Rows.stateBeginsSpec.pre6 enc Try.prog Try.f7 Rows.stateBeginsRow.domain false) (Rows.stateBeginsSpec.post enc Try.prog Try.f7 false true false false) :=
  law_lifted (C := Try.checked) own started (by kernel_rfl) Try.func7
    (ChangeSpec.witness6 (enc := enc) (C := Try.checked) false ⟨#[], #[.int .i64 0], []⟩ 8 (by kernel_rfl) (by kernel_rfl) (by kernel_rfl) (by kernel_rfl))
    rfl laidOut (by kernel_rfl) rfl Try.underlying4
    (fun ds h => by match ds, h with | [d1], _ => rfl)
    (fun W base args ds p hval hA _ => by
      rw [Try.params7] at hA hval
      obtain ⟨v0, vs0, d0, ds0, p0, q0, hargs, rfl, rfl, h0, r0⟩ := trodAll_cons hA
      obtain ⟨rfl, rfl, rfl⟩ := trodAll_nil r0
      obtain rfl : args = #[v0] := by cases args; simp_all
      obtain ⟨x, rfl, rfl, rfl, wx⟩ := open_int Try.underlying3 (hval 0 3 v0 rfl rfl) h0
      exact begins_all x W)
theorem begins_over : Rows.stateBeginsRow.holds Try.pinned (OpenSpec.ofChange Rows.stateBeginsSpec) :=
  OpenClaim.holds_of_wide 7 Try.f7 rfl rfl rfl rfl rfl rfl rfl ⟨rfl, rfl, rfl, rfl, rfl⟩ rfl rfl rfl rfl rfl (by kernel_rfl) Try.func7 (by kernel_rfl)
    (of_decide_eq_true (by kernel_rfl)) (by unfold Func.isWrapper; first | (rw [if_pos (by decide +kernel)]; kernel_rfl) | (rw [if_neg (by decide +kernel)]; exact ⟨rfl, rfl⟩))
    (fun os started H enc _ => begins_lifted os started H enc)

theorem c3 : Try.prog.cellsOf 3 = 1 := by kernel_rfl
theorem c31 : Try.prog.cellsOf 31 = 1 := by kernel_rfl
theorem c33 : Try.prog.cellsOf 33 = 11 := by kernel_rfl
theorem c36 : Try.prog.cellsOf 36 = 18 := by kernel_rfl
theorem open_packet {H : Type} {enc : TypeId × Value → H} {W : World} {b : Nat} {v : Value} {d : DataW H} {p : List MemPlace}
    (hv : Value.okWide Try.prog W .any b 36 v) (h : DataW.Trod enc Try.prog W 0 (fun _ => true) true 36 v d p) :
    ∃ (cs : Array Value) (A B : Option Addr) (n m a b : Nat) (proto cls flags type : Int), v = .agg cs ∧ cs.size = 18 ∧ cs[9]? = some (.slice A n a) ∧ cs[10]? = some (.slice B m b) ∧ Pk cs proto cls flags type := by
  obtain ⟨cs, rfl, hsz, k, hk⟩ := open_struct Try.underlying36 hv h
  obtain ⟨m0, y0, e0⟩ := open_field Try.underlying36 hk 0 33 0 11 rfl c33
  obtain ⟨m1, y1, e1⟩ := open_field Try.underlying36 hk 1 3 11 1 rfl c3
  obtain ⟨m4, y4, e4⟩ := open_field Try.underlying36 hk 4 3 14 1 rfl c3
  obtain ⟨m5, y5, e5⟩ := open_field Try.underlying36 hk 5 3 15 1 rfl c3
  obtain ⟨k6, z6, g6⟩ := open_field Try.underlying33 e0 6 3 6 1 rfl c3
  obtain ⟨k9, z9, g9⟩ := open_field Try.underlying33 e0 9 31 9 1 rfl c31
  obtain ⟨k10, z10, g10⟩ := open_field Try.underlying33 e0 10 31 10 1 rfl c31
  obtain ⟨cls, q1, -, -⟩ := DataW.trod_int Try.underlying3 e1
  obtain ⟨flags, q4, -, -⟩ := DataW.trod_int Try.underlying3 e4
  obtain ⟨type, q5, -, -⟩ := DataW.trod_int Try.underlying3 e5
  obtain ⟨proto, q6, -, -⟩ := DataW.trod_int Try.underlying3 g6
  have s9 : ∃ A n c, cs[9]? = some (.slice A n c) := by
    rcases DataW.trod_slice Try.underlying31 g9 with ⟨h9, -⟩ | ⟨a, n, c, _, _, _, _, h9, _⟩
    · exact ⟨none, 0, 0, by simpa using sub_at (one_at h9)⟩
    · exact ⟨some a, n, c, by simpa using sub_at (one_at h9)⟩
  have s10 : ∃ A n c, cs[10]? = some (.slice A n c) := by
    rcases DataW.trod_slice Try.underlying31 g10 with ⟨h9, -⟩ | ⟨a, n, c, _, _, _, _, h9, _⟩
    · exact ⟨none, 0, 0, by simpa using sub_at (one_at h9)⟩
    · exact ⟨some a, n, c, by simpa using sub_at (one_at h9)⟩
  obtain ⟨A, n, a, h9⟩ := s9
  obtain ⟨B, m, b, h10⟩ := s10
  exact ⟨cs, A, B, n, m, a, b, proto, cls, flags, type, rfl, hsz.trans c36, h9, h10, by simpa using sub_at (one_at q6), by simpa using one_at q1, by simpa using one_at q4, by simpa using one_at q5⟩

set_option maxRecDepth 100000 in
theorem tells_lifted (os : Os) (started : os.Started) (H : Type) (enc : TypeId × Value → H) :
    ReturnsInHanded {} Try.checked os 6 .any (Rows.stateTellsSpec.pre6 enc Try.prog Try.f6 Rows.stateTellsRow.domain false) (Rows.stateTellsSpec.post enc Try.prog Try.f6 false true false false) :=
  law_lifted (C := Try.checked) own started (by kernel_rfl) Try.func6
    (ChangeSpec.witness6 (enc := enc) (C := Try.checked) false ⟨#[], #[.agg (pkCells 0), .int .i64 0, .bool false, .int .i64 0], []⟩ 8 (by kernel_rfl) (by kernel_rfl) (by kernel_rfl) (by kernel_rfl))
    rfl laidOut (by kernel_rfl) rfl Try.underlying4
    (fun ds h => by match ds, h with | [d1, d2, d3, d4], _ => rfl)
    (fun W base args ds p hval hA _ => by
      rw [Try.params6] at hA hval
      obtain ⟨v0, vs0, d0, ds0, p0, q0, hargs, rfl, rfl, h0, r0⟩ := trodAll_cons hA
      obtain ⟨v1, vs1, d1, ds1, p1, q1, rfl, rfl, rfl, h1, r1⟩ := trodAll_cons r0
      obtain ⟨v2, vs2, d2, ds2, p2, q2, rfl, rfl, rfl, h2, r2⟩ := trodAll_cons r1
      obtain ⟨v3, vs3, d3, ds3, p3, q3, rfl, rfl, rfl, h3, r3⟩ := trodAll_cons r2
      obtain ⟨rfl, rfl, rfl⟩ := trodAll_nil r3
      obtain rfl : args = #[v0, v1, v2, v3] := by cases args; simp_all
      obtain ⟨cs, A, B, n, m, a, b, proto, cls, flags, type, rfl, hcs, h9, h10, hP⟩ := open_packet (hval 0 36 v0 rfl rfl) h0
      obtain ⟨s, rfl, rfl, rfl, ws⟩ := open_int Try.underlying3 (hval 1 3 v1 rfl rfl) h1
      obtain ⟨x, rfl, rfl, rfl⟩ := open_bool Try.underlying4 (hval 2 4 v2 rfl rfl) h2
      obtain ⟨fl, rfl, rfl, rfl, wf⟩ := open_int Try.underlying3 (hval 3 3 v3 rfl rfl) h3
      exact tells_walk cs hcs A B n m a b h9 h10 proto cls flags type hP s x fl W)
theorem tells_over : Rows.stateTellsRow.holds Try.pinned (OpenSpec.ofChange Rows.stateTellsSpec) :=
  OpenClaim.holds_of_wide 6 Try.f6 rfl rfl rfl rfl rfl rfl rfl ⟨rfl, rfl, rfl, rfl, rfl⟩ rfl rfl rfl rfl rfl (by kernel_rfl) Try.func6 (by kernel_rfl)
    (of_decide_eq_true (by kernel_rfl)) (by unfold Func.isWrapper; first | (rw [if_pos (by decide +kernel)]; kernel_rfl) | (rw [if_neg (by decide +kernel)]; exact ⟨rfl, rfl⟩))
    (fun os started H enc _ => tells_lifted os started H enc)
end Go.Proofs.Ytfeencjpdfnkhaa.R1
namespace Go.Proofs.Ytfeencjpdfnkhaa
theorem stateRuns_holds : Rows.StateRunsSaid := R1.runs_over
theorem stateShakes_holds : Rows.StateShakesSaid := R1.shakes_over
theorem stateBegins_holds : Rows.StateBeginsSaid := R1.begins_over
theorem stateTells_holds : Rows.StateTellsSaid := R1.tells_over
#print axioms stateRuns_holds
end Go.Proofs.Ytfeencjpdfnkhaa
