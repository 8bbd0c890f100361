/- The row and the tied card of ConfParses: whatever the arguments, the law returns true and the arguments read as they did; the listed tables of the library are tied to the program's text. No condition. -/
import Derived.Test.YtnmbbnhgoedjgaaGreatDoorRows
import Derived.Test.YtnmbbnhgoedjgaaGreatDoorCards
import Derived.Test.YtnmbbnhgoedjgaaGreatDoorTie
import Derived.Test.YtnmbbnhgoedjgaaGreatDoorPB2
import Derived.Test.YtnmbbnhgoedjgaaGreatDoorPSt2
import Derived.Test.YtnmbbnhgoedjgaaGreatDoorPCk0
import Derived.Test.YtnmbbnhgoedjgaaGreatDoorPChJ
import Derived.Test.YtnmbbnhgoedjgaaGreatDoorPRuV
import Derived.Test.YtnmbbnhgoedjgaaGreatDoorPRuX
import Derived.Test.YtnmbbnhgoedjgaaGreatDoorPCg7
import Derived.SevenTiedAt
import Derived.Lay
import Derived.PinnedBridge
namespace Go.Proofs.YtnmbbnhgoedjgaaGreatDoor.CkR0
open Go Go.RowKit Go.ChangeShapes Go.WideShapes Go.ChangeAt
open Go.Proofs.YtnmbbnhgoedjgaaGreatDoor.B2 Go.Proofs.YtnmbbnhgoedjgaaGreatDoor.St2
set_option linter.unusedVariables false
set_option linter.unusedSimpArgs false
theorem own : ownKnob Tryz.prog.godebug = none := by kernel_rfl
theorem laidOut : laidOutB Tryz.prog = true := by kernel_rfl
set_option maxRecDepth 100000 in
theorem open_str {H : Type} {enc : TypeId × Value → H} {W : World} {b : Nat} {v : Value} {d : DataW H} {p : List MemPlace}
    (hv : Value.okWide Tryz.prog W .any b 9 v) (h : DataW.Trod enc Tryz.prog W 0 (fun _ => true) true 9 v d p) : ∃ s : ByteArray, s.size ≤ maxLen ∧ v = .string s := by
  obtain ⟨s, rfl⟩ := okWide_string Tryz.underlying9 hv
  obtain ⟨fuel, hf⟩ := h
  obtain ⟨s', h1, -, h3⟩ := DataW.trod_string Tryz.underlying9 hf
  simp [Value.cells] at h1
  subst h1
  exact ⟨s, h3, rfl⟩
set_option maxRecDepth 100000 in
theorem libOK {W : World} {laid : List (String × DataW Unit)} (j : Nat) (hj : laid[j]? = some ("internal/strconv.uint64pow10", Lib.tabData .u64 Lib.pow10Tab)) (hn : (laid.filter fun x => x.2.handleName?.isSome) = [])
    (hl : laidMetH Tryz.prog laid W) (hs : W.ShapedOpen Tryz.prog) : LibOK W where
  maxLen := cell_of_shapedOpen_int hs (of_decide_eq_true (by kernel_rfl)) (t := 3) (zero := #[.int .i64 0]) (by kernel_rfl) rfl (by kernel_rfl) (by kernel_rfl) Tryz.underlying3
  pow10 := by
    unfold laidMetH at hl
    rw [hn] at hl
    exact tabIs_of_mem gPow (t := 219) (by kernel_rfl) Tryz.underlying219 Tryz.underlying198 (by kernel_rfl) (by kernel_rfl) laid j hj hl
set_option maxRecDepth 100000 in
theorem confParses_lifted (os : Os) (started : os.Started) (H : Type) (enc : TypeId × Value → H) :
    ReturnsInHanded {} Tryz.checked os 3 .any (fun w args => (Rows.confParsesSpec.pre enc Tryz.prog Tryz.f3 Rows.confParsesRow.domain false w args ∧ laidMetH Tryz.prog Rows.confParsesRow.laid w) ∧ sizedMet enc Tryz.prog Tryz.f3 (OpenSpec.ofChange Rows.confParsesSpec) false w args) (Rows.confParsesSpec.post enc Tryz.prog Tryz.f3 false true false false) :=
  law_lifted_open (C := Tryz.checked) own started (by kernel_rfl) Tryz.func3
    (ChangeSpec.witness_shaped (enc := enc) (C := Tryz.checked) (os := os) (X := fun w _ => laidMetH Tryz.prog Rows.confParsesRow.laid w) false (World.laidAll Tryz.prog os Rows.confParsesRow.laid) #[.string ⟨#[]⟩] 8 (World.laidAll_os _ _ _) (World.shaped_of_ZipB (by kernel_rfl) (by kernel_rfl)) (by kernel_rfl) (by kernel_rfl) (by kernel_rfl)
      (by rw [MakeChecks.laidMetH_plain _ _ _ (by kernel_rfl)]; exact laidMet_laidAll _ (by kernel_rfl) (by kernel_rfl)))
    rfl laidOut (by kernel_rfl) rfl Tryz.underlying4
    (fun ds h => by match ds, h with | [d0], _ => rfl)
    (fun W base args ds p hval hA hSz hL hS => by
      rw [Tryz.params3] at hA hval
      have hok : LibOK W := libOK 2 rfl (by kernel_rfl) hL hS
      obtain ⟨v0, vs0, d0, ds0, p0, q0, hargs, rfl, rfl, h0, r0⟩ := trodAll_cons hA
      obtain ⟨rfl, rfl, rfl⟩ := trodAll_nil r0
      obtain rfl : args = #[v0] := by cases args; simp_all
      obtain ⟨x0, k0, rfl⟩ := open_str (hval 0 9 v0 rfl rfl) h0
      exact Ck0.parses_walk ChJ.isIface_said (ChJ.printed_said_conf RuV.print_said) RuX.rprint_said RuOa.read_said x0 W hok)
theorem confParses_over : Rows.ConfParsesSaid :=
  OpenClaim.holds_of_wide 3 Tryz.f3 rfl rfl rfl rfl rfl rfl rfl ⟨rfl, rfl, rfl, rfl, rfl⟩ rfl rfl rfl rfl rfl (by kernel_rfl) Tryz.func3 (by kernel_rfl)
    (of_decide_eq_true (by kernel_rfl)) (by unfold Func.isWrapper; first | (rw [if_pos (by decide +kernel)]; kernel_rfl) | (rw [if_neg (by decide +kernel)]; exact ⟨rfl, rfl⟩))
    (fun os started H enc _ => confParses_lifted os started H enc)
theorem confParses_card : Rows.ConfParsesCardSaid :=
  Claim7.holds_tied_plain_at .later [] Rows.confParsesCard.laidKinds true Rows.confParsesCard.stood.harness true
    confParses_over (fun _ h => by cases h) (by kernel_rfl) (fun _ h => by cases h) confParses_row_tie rfl ⟨rfl, rfl⟩ (by kernel_rfl) rfl
    (fun f fn hf hfn => by
      obtain rfl : f = 3 := Option.some.inj ((show Tryz.prog.funcNamed "castellan/castellanlaw20.ConfParses" = some 3 by kernel_rfl).symm.trans hf) |>.symm
      obtain rfl : fn = Tryz.f3 := (Option.some.inj (Tryz.func3.symm.trans hfn)).symm
      exact ⟨by kernel_rfl, fun j t ht => by
        rw [Tryz.params3] at ht
        have hm : t ∈ [9] := by simpa using Array.mem_of_getElem? ht
        have hall : ([9].all fun u => !Tryz.prog.wantsStandIn u) = true := by kernel_rfl
        exact (show Tryz.prog.wantsStandIn t = false by simpa using List.all_eq_true.1 hall t hm)⟩)
    (by kernel_rfl)
end Go.Proofs.YtnmbbnhgoedjgaaGreatDoor.CkR0
namespace Go.Proofs.YtnmbbnhgoedjgaaGreatDoor
theorem confParses_holds : Rows.ConfParsesCardSaid := CkR0.confParses_card
#print axioms confParses_holds
end Go.Proofs.YtnmbbnhgoedjgaaGreatDoor

