/- The row and the tied card of ConfPrints: whatever the arguments, the law returns true and the arguments read as they did; the listed tables of the library are tied to the program's text. No condition. -/
import Derived.Test.YtnmbbnhgoedjgaaGreatDoorRows
import Derived.Test.YtnmbbnhgoedjgaaGreatDoorCards
import Derived.Test.YtnmbbnhgoedjgaaGreatDoorTie
import Derived.Test.YtnmbbnhgoedjgaaGreatDoorQB2
import Derived.Test.YtnmbbnhgoedjgaaGreatDoorQSt2
import Derived.Test.YtnmbbnhgoedjgaaGreatDoorQCkO
import Derived.Test.YtnmbbnhgoedjgaaGreatDoorQCk4
import Derived.Test.YtnmbbnhgoedjgaaGreatDoorQChJ
import Derived.Test.YtnmbbnhgoedjgaaGreatDoorQRuV
import Derived.Test.YtnmbbnhgoedjgaaGreatDoorQRuX
import Derived.SevenTiedAt
import Derived.Lay
import Derived.PinnedBridge
namespace Go.Proofs.YtnmbbnhgoedjgaaGreatDoor.CkR4
open Go Go.RowKit Go.ChangeShapes Go.WideShapes Go.ChangeAt
open Go.Proofs.YtnmbbnhgoedjgaaGreatDoor.B2 Go.Proofs.YtnmbbnhgoedjgaaGreatDoor.St2 Go.Proofs.YtnmbbnhgoedjgaaGreatDoor.CkO
set_option linter.unusedVariables false
set_option linter.unusedSimpArgs false
theorem own : ownKnob Tryz.prog.godebug = none := by kernel_rfl
theorem laidOut : laidOutB Tryz.prog = true := by kernel_rfl
set_option maxRecDepth 100000 in
theorem open_str {H : Type} {enc : TypeId × Value → H} {W : World} {b : Nat} {v : Value} {d : DataW H} {p : List MemPlace}
    (hv : Value.okWide Tryz.prog W .any b 9 v) (h : DataW.Trod enc Tryz.prog W 0 (fun _ => true) true 9 v d p) : ∃ s : ByteArray, s.size ≤ maxLen ∧ v = .string s := by
  obtain ⟨s, rfl⟩ := okWide_string Tryz.underlying9 hv
  obtain ⟨fuel, hf⟩ := h
  obtain ⟨s', h1, -, h3⟩ := DataW.trod_string Tryz.underlying9 hf
  simp [Value.cells] at h1
  subst h1
  exact ⟨s, h3, rfl⟩
set_option maxRecDepth 100000 in
theorem libOK {W : World} {laid : List (String × DataW Unit)} (j : Nat) (hj : laid[j]? = some ("internal/strconv.uint64pow10", Lib.tabData .u64 Lib.pow10Tab)) (hn : (laid.filter fun x => x.2.handleName?.isSome) = [])
    (hl : laidMetH Tryz.prog laid W) (hs : W.ShapedOpen Tryz.prog) : LibOK W where
  maxLen := cell_of_shapedOpen_int hs (of_decide_eq_true (by kernel_rfl)) (t := 3) (zero := #[.int .i64 0]) (by kernel_rfl) rfl (by kernel_rfl) (by kernel_rfl) Tryz.underlying3
  pow10 := by
    unfold laidMetH at hl
    rw [hn] at hl
    exact tabIs_of_mem gPow (t := 219) (by kernel_rfl) Tryz.underlying219 Tryz.underlying198 (by kernel_rfl) (by kernel_rfl) laid j hj hl
set_option maxRecDepth 100000 in
theorem confPrints_lifted (os : Os) (started : os.Started) (H : Type) (enc : TypeId × Value → H) :
    ReturnsInHanded {} Tryz.checked os 8 .any (fun w args => (Rows.confPrintsSpec.pre enc Tryz.prog Tryz.f8 Rows.confPrintsRow.domain false w args ∧ laidMetH Tryz.prog Rows.confPrintsRow.laid w) ∧ sizedMet enc Tryz.prog Tryz.f8 (OpenSpec.ofChange Rows.confPrintsSpec) false w args) (Rows.confPrintsSpec.post enc Tryz.prog Tryz.f8 false true false false) :=
  law_lifted_open (C := Tryz.checked) own started (by kernel_rfl) Tryz.func8
    (ChangeSpec.witness_shaped (enc := enc) (C := Tryz.checked) (os := os) (X := fun w _ => laidMetH Tryz.prog Rows.confPrintsRow.laid w) false (World.laidAll Tryz.prog os Rows.confPrintsRow.laid) #[.agg #[.slice none 0 0, .slice none 0 0, .slice none 0 0, .slice none 0 0, .int .i64 0, .int .i64 0], .agg #[.slice none 0 0, .slice none 0 0, .slice none 0 0, .slice none 0 0, .int .i64 0, .int .i64 0], .string ⟨#[]⟩] 8 (World.laidAll_os _ _ _) (World.shaped_of_ZipB (by kernel_rfl) (by kernel_rfl)) (by kernel_rfl) (by kernel_rfl) (by kernel_rfl)
      (by rw [MakeChecks.laidMetH_plain _ _ _ (by kernel_rfl)]; exact laidMet_laidAll _ (by kernel_rfl) (by kernel_rfl)))
    rfl laidOut (by kernel_rfl) rfl Tryz.underlying4
    (fun ds h => by match ds, h with | [d0, d1, d2], _ => rfl)
    (fun W base args ds p hval hA hSz hL hS => by
      rw [Tryz.params8] at hA hval hSz
      have hok : LibOK W := libOK 2 rfl (by kernel_rfl) hL hS
      obtain ⟨v0, vs0, d0, ds0, p0, q0, hargs, rfl, rfl, h0, r0⟩ := trodAll_cons hA
      obtain ⟨v1, vs1, d1, ds1, p1, q1, rfl, rfl, rfl, h1, r1⟩ := trodAll_cons r0
      obtain ⟨v2, vs2, d2, ds2, p2, q2, rfl, rfl, rfl, h2, r2⟩ := trodAll_cons r1
      obtain ⟨rfl, rfl, rfl⟩ := trodAll_nil r2
      obtain rfl : args = #[v0, v1, v2] := by cases args; simp_all
      obtain ⟨c0, a0, b0, e0, f0, ts0, hc0, hf0, rfl⟩ := open_conf (each_at _ _ hSz 0 27 d0 rfl rfl) (hval 0 27 v0 rfl rfl) h0
      obtain ⟨c1, a1, b1, e1, f1, ts1, hc1, hf1, rfl⟩ := open_conf (each_at _ _ hSz 1 27 d1 rfl rfl) (hval 1 27 v1 rfl rfl) h1
      obtain ⟨x2, k2, rfl⟩ := open_str (hval 2 9 v2 rfl rfl) h2
      exact Ck4.prints_walk ChJ.isIface_said (ChJ.printed_said_conf RuV.print_said) RuX.rprint_said c0 c1 a0 b0 e0 f0 a1 b1 e1 f1 ts0 ts1 x2.data.toList W hc0 hc1 hf0 hf1 hok)
theorem confPrints_over : Rows.ConfPrintsSaid :=
  OpenClaim.holds_of_wide 8 Tryz.f8 rfl rfl rfl rfl rfl rfl rfl ⟨rfl, rfl, rfl, rfl, rfl⟩ rfl rfl rfl rfl rfl (by kernel_rfl) Tryz.func8 (by kernel_rfl)
    (of_decide_eq_true (by kernel_rfl)) (by unfold Func.isWrapper; first | (rw [if_pos (by decide +kernel)]; kernel_rfl) | (rw [if_neg (by decide +kernel)]; exact ⟨rfl, rfl⟩))
    (fun os started H enc _ => confPrints_lifted os started H enc)
theorem confPrints_card : Rows.ConfPrintsCardSaid :=
  Claim7.holds_tied_plain_at .later [] Rows.confPrintsCard.laidKinds true Rows.confPrintsCard.stood.harness true
    confPrints_over (fun _ h => by cases h) (by kernel_rfl) (fun _ h => by cases h) confPrints_row_tie rfl ⟨rfl, rfl⟩ (by kernel_rfl) rfl
    (fun f fn hf hfn => by
      obtain rfl : f = 8 := Option.some.inj ((show Tryz.prog.funcNamed "castellan/castellanlaw20.ConfPrints" = some 8 by kernel_rfl).symm.trans hf) |>.symm
      obtain rfl : fn = Tryz.f8 := (Option.some.inj (Tryz.func8.symm.trans hfn)).symm
      exact ⟨by kernel_rfl, fun j t ht => by
        rw [Tryz.params8] at ht
        have hm : t ∈ [27, 27, 9] := by simpa using Array.mem_of_getElem? ht
        have hall : ([27, 27, 9].all fun u => !Tryz.prog.wantsStandIn u) = true := by kernel_rfl
        exact (show Tryz.prog.wantsStandIn t = false by simpa using List.all_eq_true.1 hall t hm)⟩)
    (by kernel_rfl)
end Go.Proofs.YtnmbbnhgoedjgaaGreatDoor.CkR4
namespace Go.Proofs.YtnmbbnhgoedjgaaGreatDoor
theorem confPrints_holds : Rows.ConfPrintsCardSaid := CkR4.confPrints_card
#print axioms confPrints_holds
end Go.Proofs.YtnmbbnhgoedjgaaGreatDoor

