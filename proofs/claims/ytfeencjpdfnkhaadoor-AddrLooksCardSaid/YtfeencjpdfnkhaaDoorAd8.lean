/- The rows and the tied cards of AddrHas, AddrPairs, AddrNorms and AddrLooks: whatever the arguments, the law returns true and the arguments read as they did; the listed tables of the library are tied to the program's text. No condition. -/
import Derived.Test.YtfeencjpdfnkhaaDoorRows
import Derived.Test.YtfeencjpdfnkhaaDoorCards
import Derived.Test.YtfeencjpdfnkhaaDoorTie
import Derived.Test.YtfeencjpdfnkhaaDoorB0
import Derived.Test.YtfeencjpdfnkhaaDoorAd6
import Derived.Test.YtfeencjpdfnkhaaDoorAd7
import Derived.SevenTiedAt
namespace Go.Proofs.YtfeencjpdfnkhaaDoor.Ad8
open Go Go.RowKit Go.ChangeShapes Go.WideShapes Go.ChangeAt
open Go.Proofs.YtfeencjpdfnkhaaDoor.B0 Go.Proofs.YtfeencjpdfnkhaaDoor.Ad0 Go.Proofs.YtfeencjpdfnkhaaDoor.Ad4 Go.Proofs.YtfeencjpdfnkhaaDoor.Ad6 Go.Proofs.YtfeencjpdfnkhaaDoor.Ad7
set_option linter.unusedVariables false
set_option linter.unusedSimpArgs false

theorem own : ownKnob Tryd.prog.godebug = none := by kernel_rfl
theorem laidOut : laidOutB Tryd.prog = true := by kernel_rfl
theorem c1 : Tryd.prog.cellsOf 3 = 1 := by kernel_rfl
theorem c2 : Tryd.prog.cellsOf 22 = 1 := by kernel_rfl
theorem c3 : Tryd.prog.cellsOf 24 = 2 := by kernel_rfl

theorem u32_lt {n : Int} (h : (Lit.int .u32 n).wf = true) : ∃ k : Nat, n = k ∧ k < 4294967296 := by
  have hb : 0 ≤ n ∧ n < 4294967296 := by
    simp [Lit.wf, IntKind.min, IntKind.max, IntKind.bits, IntKind.signed] at h
    omega
  exact ⟨n.toNat, by omega, by omega⟩

theorem open_pfx {H : Type} {enc : TypeId × Value → H} {W : World} {b : Nat} {v : Value} {d : DataW H} {p : List MemPlace}
    (hv : Value.okWide Tryd.prog W .any b 24 v) (h : DataW.Trod enc Tryd.prog W 0 (fun _ => true) true 24 v d p) : ∃ q : Pfx, q.ok ∧ v = .agg #[.int .u32 q.addr, .int .i64 q.len] := by
  obtain ⟨cs, rfl, hsz, k, hk⟩ := open_struct Tryd.underlying24 hv h
  obtain ⟨m0, y0, e0⟩ := open_field Tryd.underlying24 hk 0 22 0 1 rfl c2
  obtain ⟨m1, y1, e1⟩ := open_field Tryd.underlying24 hk 1 3 1 1 rfl c1
  obtain ⟨a, q0, -, wa⟩ := DataW.trod_int Tryd.underlying22 e0
  obtain ⟨n, q1, -, wn⟩ := DataW.trod_int Tryd.underlying3 e1
  obtain ⟨x, rfl, hx⟩ := u32_lt wa
  have h0 := one_at q0
  have h1 := one_at q1
  rw [c3] at hsz
  refine ⟨⟨x, n⟩, hx, ?_⟩
  obtain ⟨l⟩ := cs
  match l, hsz, h0, h1 with
  | [u, v], _, h0, h1 =>
    simp at h0 h1
    subst h0 h1
    rfl
theorem open_u32 {H : Type} {enc : TypeId × Value → H} {W : World} {b : Nat} {v : Value} {d : DataW H} {p : List MemPlace}
    (hv : Value.okWide Tryd.prog W .any b 22 v) (h : DataW.Trod enc Tryd.prog W 0 (fun _ => true) true 22 v d p) : ∃ x : Nat, x < 4294967296 ∧ v = .int .u32 x := by
  obtain ⟨n, rfl, rfl, rfl, wn⟩ := open_int Tryd.underlying22 hv h
  obtain ⟨x, rfl, hx⟩ := u32_lt wn
  exact ⟨x, hx, rfl⟩

set_option maxRecDepth 100000 in
theorem addrHas_lifted (os : Os) (started : os.Started) (H : Type) (enc : TypeId × Value → H) :
    ReturnsInHanded {} Tryd.checked os 3 .any (fun w args => (Rows.addrHasSpec.pre enc Tryd.prog Tryd.f3 Rows.addrHasRow.domain false w args ∧ laidMetH Tryd.prog Rows.addrHasRow.laid w) ∧ sizedMet enc Tryd.prog Tryd.f3 (OpenSpec.ofChange Rows.addrHasSpec) false w args) (Rows.addrHasSpec.post enc Tryd.prog Tryd.f3 false true false false) :=
  law_lifted_laid (C := Tryd.checked) own started (by kernel_rfl) Tryd.func3
    (ChangeSpec.witness_shaped (enc := enc) (C := Tryd.checked) (os := os) (X := fun w _ => laidMetH Tryd.prog Rows.addrHasRow.laid w) false (World.doorLaid Tryd.prog 400 os) #[.agg #[.int .u32 0, .int .i64 0], .agg #[.int .u32 0, .int .i64 0], .int .u32 0] 8 rfl (World.shaped_of_RefB (by kernel_rfl) (by kernel_rfl)) (by kernel_rfl) (by kernel_rfl) (by kernel_rfl)
      (laidMetH_of_parts3 (fuel := 8) (laidMet_of_run' 8 (by kernel_rfl) (by kernel_rfl)) (by kernel_rfl) (by kernel_rfl)))
    rfl laidOut (by kernel_rfl) rfl Tryd.underlying4
    (fun ds h => by match ds, h with | [d0, d1, d2], _ => rfl)
    (fun W base args ds p hval hA _ _ => by
      rw [Tryd.params3] at hA hval
      obtain ⟨v0, vs0, d0, ds0, p0, q0, hargs, rfl, rfl, h0, r0⟩ := trodAll_cons hA
      obtain ⟨v1, vs1, d1, ds1, p1, q1, rfl, rfl, rfl, h1, r1⟩ := trodAll_cons r0
      obtain ⟨v2, vs2, d2, ds2, p2, q2, rfl, rfl, rfl, h2, r2⟩ := trodAll_cons r1
      obtain ⟨rfl, rfl, rfl⟩ := trodAll_nil r2
      obtain rfl : args = #[v0, v1, v2] := by cases args; simp_all
      obtain ⟨x0, k0, rfl⟩ := open_pfx (hval 0 24 v0 rfl rfl) h0
      obtain ⟨x1, k1, rfl⟩ := open_pfx (hval 1 24 v1 rfl rfl) h1
      obtain ⟨x2, k2, rfl⟩ := open_u32 (hval 2 22 v2 rfl rfl) h2
      exact has_walk x0 x1 k0 k1 x2 k2 W)
theorem addrHas_over : Rows.AddrHasSaid :=
  OpenClaim.holds_of_wide 3 Tryd.f3 rfl rfl rfl rfl rfl rfl rfl ⟨rfl, rfl, rfl, rfl, rfl⟩ rfl rfl rfl rfl rfl (by kernel_rfl) Tryd.func3 (by kernel_rfl)
    (of_decide_eq_true (by kernel_rfl)) (by unfold Func.isWrapper; first | (rw [if_pos (by decide +kernel)]; kernel_rfl) | (rw [if_neg (by decide +kernel)]; exact ⟨rfl, rfl⟩))
    (fun os started H enc _ => addrHas_lifted os started H enc)
theorem addrHas_card : Rows.AddrHasCardSaid :=
  Claim7.holds_tied_plain_at .later [] Rows.addrHasCard.laidKinds true Rows.addrHasCard.stood.harness false
    addrHas_over (fun _ h => by cases h) (by kernel_rfl) (fun _ h => by cases h) addrHas_row_tie rfl ⟨rfl, rfl⟩ (by kernel_rfl) rfl
    (fun f fn hf hfn => by
      obtain rfl : f = 3 := Option.some.inj ((show Tryd.prog.funcNamed "castellan/castellanlaw3.AddrHas" = some 3 by kernel_rfl).symm.trans hf) |>.symm
      obtain rfl : fn = Tryd.f3 := (Option.some.inj (Tryd.func3.symm.trans hfn)).symm
      exact ⟨by kernel_rfl, fun j t ht => by
        rw [Tryd.params3] at ht
        have hm : t ∈ [24, 24, 22] := by simpa using Array.mem_of_getElem? ht
        have hall : ([24, 24, 22].all fun u => !Tryd.prog.wantsStandIn u) = true := by kernel_rfl
        exact (show Tryd.prog.wantsStandIn t = false by simpa using List.all_eq_true.1 hall t hm)⟩)
    (by kernel_rfl)

set_option maxRecDepth 100000 in
theorem addrPairs_lifted (os : Os) (started : os.Started) (H : Type) (enc : TypeId × Value → H) :
    ReturnsInHanded {} Tryd.checked os 4 .any (fun w args => (Rows.addrPairsSpec.pre enc Tryd.prog Tryd.f4 Rows.addrPairsRow.domain false w args ∧ laidMetH Tryd.prog Rows.addrPairsRow.laid w) ∧ sizedMet enc Tryd.prog Tryd.f4 (OpenSpec.ofChange Rows.addrPairsSpec) false w args) (Rows.addrPairsSpec.post enc Tryd.prog Tryd.f4 false true false false) :=
  law_lifted_laid (C := Tryd.checked) own started (by kernel_rfl) Tryd.func4
    (ChangeSpec.witness_shaped (enc := enc) (C := Tryd.checked) (os := os) (X := fun w _ => laidMetH Tryd.prog Rows.addrPairsRow.laid w) false (World.doorLaid Tryd.prog 400 os) #[.agg #[.int .u32 0, .int .i64 0], .agg #[.int .u32 0, .int .i64 0], .int .u32 0] 8 rfl (World.shaped_of_RefB (by kernel_rfl) (by kernel_rfl)) (by kernel_rfl) (by kernel_rfl) (by kernel_rfl)
      (laidMetH_of_parts3 (fuel := 8) (laidMet_of_run' 8 (by kernel_rfl) (by kernel_rfl)) (by kernel_rfl) (by kernel_rfl)))
    rfl laidOut (by kernel_rfl) rfl Tryd.underlying4
    (fun ds h => by match ds, h with | [d0, d1, d2], _ => rfl)
    (fun W base args ds p hval hA _ _ => by
      rw [Tryd.params4] at hA hval
      obtain ⟨v0, vs0, d0, ds0, p0, q0, hargs, rfl, rfl, h0, r0⟩ := trodAll_cons hA
      obtain ⟨v1, vs1, d1, ds1, p1, q1, rfl, rfl, rfl, h1, r1⟩ := trodAll_cons r0
      obtain ⟨v2, vs2, d2, ds2, p2, q2, rfl, rfl, rfl, h2, r2⟩ := trodAll_cons r1
      obtain ⟨rfl, rfl, rfl⟩ := trodAll_nil r2
      obtain rfl : args = #[v0, v1, v2] := by cases args; simp_all
      obtain ⟨x0, k0, rfl⟩ := open_pfx (hval 0 24 v0 rfl rfl) h0
      obtain ⟨x1, k1, rfl⟩ := open_pfx (hval 1 24 v1 rfl rfl) h1
      obtain ⟨x2, k2, rfl⟩ := open_u32 (hval 2 22 v2 rfl rfl) h2
      exact pairs_walk x0 x1 k0 k1 x2 k2 W)
theorem addrPairs_over : Rows.AddrPairsSaid :=
  OpenClaim.holds_of_wide 4 Tryd.f4 rfl rfl rfl rfl rfl rfl rfl ⟨rfl, rfl, rfl, rfl, rfl⟩ rfl rfl rfl rfl rfl (by kernel_rfl) Tryd.func4 (by kernel_rfl)
    (of_decide_eq_true (by kernel_rfl)) (by unfold Func.isWrapper; first | (rw [if_pos (by decide +kernel)]; kernel_rfl) | (rw [if_neg (by decide +kernel)]; exact ⟨rfl, rfl⟩))
    (fun os started H enc _ => addrPairs_lifted os started H enc)
theorem addrPairs_card : Rows.AddrPairsCardSaid :=
  Claim7.holds_tied_plain_at .later [] Rows.addrPairsCard.laidKinds true Rows.addrPairsCard.stood.harness false
    addrPairs_over (fun _ h => by cases h) (by kernel_rfl) (fun _ h => by cases h) addrPairs_row_tie rfl ⟨rfl, rfl⟩ (by kernel_rfl) rfl
    (fun f fn hf hfn => by
      obtain rfl : f = 4 := Option.some.inj ((show Tryd.prog.funcNamed "castellan/castellanlaw3.AddrPairs" = some 4 by kernel_rfl).symm.trans hf) |>.symm
      obtain rfl : fn = Tryd.f4 := (Option.some.inj (Tryd.func4.symm.trans hfn)).symm
      exact ⟨by kernel_rfl, fun j t ht => by
        rw [Tryd.params4] at ht
        have hm : t ∈ [24, 24, 22] := by simpa using Array.mem_of_getElem? ht
        have hall : ([24, 24, 22].all fun u => !Tryd.prog.wantsStandIn u) = true := by kernel_rfl
        exact (show Tryd.prog.wantsStandIn t = false by simpa using List.all_eq_true.1 hall t hm)⟩)
    (by kernel_rfl)

set_option maxRecDepth 100000 in
theorem addrNorms_lifted (os : Os) (started : os.Started) (H : Type) (enc : TypeId × Value → H) :
    ReturnsInHanded {} Tryd.checked os 5 .any (fun w args => (Rows.addrNormsSpec.pre enc Tryd.prog Tryd.f5 Rows.addrNormsRow.domain false w args ∧ laidMetH Tryd.prog Rows.addrNormsRow.laid w) ∧ sizedMet enc Tryd.prog Tryd.f5 (OpenSpec.ofChange Rows.addrNormsSpec) false w args) (Rows.addrNormsSpec.post enc Tryd.prog Tryd.f5 false true false false) :=
  law_lifted_laid (C := Tryd.checked) own started (by kernel_rfl) Tryd.func5
    (ChangeSpec.witness_shaped (enc := enc) (C := Tryd.checked) (os := os) (X := fun w _ => laidMetH Tryd.prog Rows.addrNormsRow.laid w) false (World.doorLaid Tryd.prog 400 os) #[.agg #[.int .u32 0, .int .i64 0], .int .u32 0] 8 rfl (World.shaped_of_RefB (by kernel_rfl) (by kernel_rfl)) (by kernel_rfl) (by kernel_rfl) (by kernel_rfl)
      (laidMetH_of_parts3 (fuel := 8) (laidMet_of_run' 8 (by kernel_rfl) (by kernel_rfl)) (by kernel_rfl) (by kernel_rfl)))
    rfl laidOut (by kernel_rfl) rfl Tryd.underlying4
    (fun ds h => by match ds, h with | [d0, d1], _ => rfl)
    (fun W base args ds p hval hA _ _ => by
      rw [Tryd.params5] at hA hval
      obtain ⟨v0, vs0, d0, ds0, p0, q0, hargs, rfl, rfl, h0, r0⟩ := trodAll_cons hA
      obtain ⟨v1, vs1, d1, ds1, p1, q1, rfl, rfl, rfl, h1, r1⟩ := trodAll_cons r0
      obtain ⟨rfl, rfl, rfl⟩ := trodAll_nil r1
      obtain rfl : args = #[v0, v1] := by cases args; simp_all
      obtain ⟨x0, k0, rfl⟩ := open_pfx (hval 0 24 v0 rfl rfl) h0
      obtain ⟨x1, k1, rfl⟩ := open_u32 (hval 1 22 v1 rfl rfl) h1
      exact norms_walk x0 k0 x1 k1 W)
theorem addrNorms_over : Rows.AddrNormsSaid :=
  OpenClaim.holds_of_wide 5 Tryd.f5 rfl rfl rfl rfl rfl rfl rfl ⟨rfl, rfl, rfl, rfl, rfl⟩ rfl rfl rfl rfl rfl (by kernel_rfl) Tryd.func5 (by kernel_rfl)
    (of_decide_eq_true (by kernel_rfl)) (by unfold Func.isWrapper; first | (rw [if_pos (by decide +kernel)]; kernel_rfl) | (rw [if_neg (by decide +kernel)]; exact ⟨rfl, rfl⟩))
    (fun os started H enc _ => addrNorms_lifted os started H enc)
theorem addrNorms_card : Rows.AddrNormsCardSaid :=
  Claim7.holds_tied_plain_at .later [] Rows.addrNormsCard.laidKinds true Rows.addrNormsCard.stood.harness false
    addrNorms_over (fun _ h => by cases h) (by kernel_rfl) (fun _ h => by cases h) addrNorms_row_tie rfl ⟨rfl, rfl⟩ (by kernel_rfl) rfl
    (fun f fn hf hfn => by
      obtain rfl : f = 5 := Option.some.inj ((show Tryd.prog.funcNamed "castellan/castellanlaw3.AddrNorms" = some 5 by kernel_rfl).symm.trans hf) |>.symm
      obtain rfl : fn = Tryd.f5 := (Option.some.inj (Tryd.func5.symm.trans hfn)).symm
      exact ⟨by kernel_rfl, fun j t ht => by
        rw [Tryd.params5] at ht
        have hm : t ∈ [24, 22] := by simpa using Array.mem_of_getElem? ht
        have hall : ([24, 22].all fun u => !Tryd.prog.wantsStandIn u) = true := by kernel_rfl
        exact (show Tryd.prog.wantsStandIn t = false by simpa using List.all_eq_true.1 hall t hm)⟩)
    (by kernel_rfl)

set_option maxRecDepth 100000 in
theorem addrLooks_lifted (os : Os) (started : os.Started) (H : Type) (enc : TypeId × Value → H) :
    ReturnsInHanded {} Tryd.checked os 6 .any (fun w args => (Rows.addrLooksSpec.pre enc Tryd.prog Tryd.f6 Rows.addrLooksRow.domain false w args ∧ laidMetH Tryd.prog Rows.addrLooksRow.laid w) ∧ sizedMet enc Tryd.prog Tryd.f6 (OpenSpec.ofChange Rows.addrLooksSpec) false w args) (Rows.addrLooksSpec.post enc Tryd.prog Tryd.f6 false true false false) :=
  law_lifted_laid (C := Tryd.checked) own started (by kernel_rfl) Tryd.func6
    (ChangeSpec.witness_shaped (enc := enc) (C := Tryd.checked) (os := os) (X := fun w _ => laidMetH Tryd.prog Rows.addrLooksRow.laid w) false (World.doorLaid Tryd.prog 400 os) #[.agg #[.int .u32 0, .int .i64 0], .agg #[.int .u32 0, .int .i64 0], .int .u32 0, .int .i64 0] 8 rfl (World.shaped_of_RefB (by kernel_rfl) (by kernel_rfl)) (by kernel_rfl) (by kernel_rfl) (by kernel_rfl)
      (laidMetH_of_parts3 (fuel := 8) (laidMet_of_run' 8 (by kernel_rfl) (by kernel_rfl)) (by kernel_rfl) (by kernel_rfl)))
    rfl laidOut (by kernel_rfl) rfl Tryd.underlying4
    (fun ds h => by match ds, h with | [d0, d1, d2, d3], _ => rfl)
    (fun W base args ds p hval hA _ _ => by
      rw [Tryd.params6] at hA hval
      obtain ⟨v0, vs0, d0, ds0, p0, q0, hargs, rfl, rfl, h0, r0⟩ := trodAll_cons hA
      obtain ⟨v1, vs1, d1, ds1, p1, q1, rfl, rfl, rfl, h1, r1⟩ := trodAll_cons r0
      obtain ⟨v2, vs2, d2, ds2, p2, q2, rfl, rfl, rfl, h2, r2⟩ := trodAll_cons r1
      obtain ⟨v3, vs3, d3, ds3, p3, q3, rfl, rfl, rfl, h3, r3⟩ := trodAll_cons r2
      obtain ⟨rfl, rfl, rfl⟩ := trodAll_nil r3
      obtain rfl : args = #[v0, v1, v2, v3] := by cases args; simp_all
      obtain ⟨x0, k0, rfl⟩ := open_pfx (hval 0 24 v0 rfl rfl) h0
      obtain ⟨x1, k1, rfl⟩ := open_pfx (hval 1 24 v1 rfl rfl) h1
      obtain ⟨x2, k2, rfl⟩ := open_u32 (hval 2 22 v2 rfl rfl) h2
      obtain ⟨x3, rfl, rfl, rfl, k3⟩ := open_int Tryd.underlying3 (hval 3 3 v3 rfl rfl) h3
      exact looks_walk x0 x1 k0 k1 x2 k2 x3 W)
theorem addrLooks_over : Rows.AddrLooksSaid :=
  OpenClaim.holds_of_wide 6 Tryd.f6 rfl rfl rfl rfl rfl rfl rfl ⟨rfl, rfl, rfl, rfl, rfl⟩ rfl rfl rfl rfl rfl (by kernel_rfl) Tryd.func6 (by kernel_rfl)
    (of_decide_eq_true (by kernel_rfl)) (by unfold Func.isWrapper; first | (rw [if_pos (by decide +kernel)]; kernel_rfl) | (rw [if_neg (by decide +kernel)]; exact ⟨rfl, rfl⟩))
    (fun os started H enc _ => addrLooks_lifted os started H enc)
theorem addrLooks_card : Rows.AddrLooksCardSaid :=
  Claim7.holds_tied_plain_at .later [] Rows.addrLooksCard.laidKinds true Rows.addrLooksCard.stood.harness false
    addrLooks_over (fun _ h => by cases h) (by kernel_rfl) (fun _ h => by cases h) addrLooks_row_tie rfl ⟨rfl, rfl⟩ (by kernel_rfl) rfl
    (fun f fn hf hfn => by
      obtain rfl : f = 6 := Option.some.inj ((show Tryd.prog.funcNamed "castellan/castellanlaw3.AddrLooks" = some 6 by kernel_rfl).symm.trans hf) |>.symm
      obtain rfl : fn = Tryd.f6 := (Option.some.inj (Tryd.func6.symm.trans hfn)).symm
      exact ⟨by kernel_rfl, fun j t ht => by
        rw [Tryd.params6] at ht
        have hm : t ∈ [24, 24, 22, 3] := by simpa using Array.mem_of_getElem? ht
        have hall : ([24, 24, 22, 3].all fun u => !Tryd.prog.wantsStandIn u) = true := by kernel_rfl
        exact (show Tryd.prog.wantsStandIn t = false by simpa using List.all_eq_true.1 hall t hm)⟩)
    (by kernel_rfl)

end Go.Proofs.YtfeencjpdfnkhaaDoor.Ad8
namespace Go.Proofs.YtfeencjpdfnkhaaDoor
theorem addrHas_holds : Rows.AddrHasCardSaid := Ad8.addrHas_card
theorem addrPairs_holds : Rows.AddrPairsCardSaid := Ad8.addrPairs_card
theorem addrNorms_holds : Rows.AddrNormsCardSaid := Ad8.addrNorms_card
theorem addrLooks_holds : Rows.AddrLooksCardSaid := Ad8.addrLooks_card
#print axioms addrHas_holds
end Go.Proofs.YtfeencjpdfnkhaaDoor
