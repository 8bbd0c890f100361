/- The rows and the tied cards of AddrTexts and AddrBack: whatever the arguments, the law returns true and the arguments read as they did; the listed tables of the library are tied to the program's text. No condition. -/
import Derived.Test.YtefhoecdoemgbaaDoorRows
import Derived.Test.YtefhoecdoemgbaaDoorCards
import Derived.Test.YtefhoecdoemgbaaDoorTie
import Derived.Test.YtefhoecdoemgbaaDoorB2
import Derived.Test.YtefhoecdoemgbaaDoorStB
import Derived.SevenTiedAt
import Derived.Lay
import Derived.PinnedBridge
namespace Go.Proofs.YtefhoecdoemgbaaDoor.StD
open Go Go.RowKit Go.ChangeShapes Go.WideShapes Go.ChangeAt
open Go.Proofs.YtefhoecdoemgbaaDoor.B0 Go.Proofs.YtefhoecdoemgbaaDoor.B2 Go.Proofs.YtefhoecdoemgbaaDoor.Ad0 Go.Proofs.YtefhoecdoemgbaaDoor.Ad4 Go.Proofs.YtefhoecdoemgbaaDoor.St2 Go.Proofs.YtefhoecdoemgbaaDoor.StB
set_option linter.unusedVariables false
set_option linter.unusedSimpArgs false

theorem own : ownKnob Tryd.prog.godebug = none := by kernel_rfl
theorem laidOut : laidOutB Tryd.prog = true := by kernel_rfl
theorem c1 : Tryd.prog.cellsOf 3 = 1 := by kernel_rfl
theorem c2 : Tryd.prog.cellsOf 22 = 1 := by kernel_rfl
theorem c3 : Tryd.prog.cellsOf 24 = 2 := by kernel_rfl

theorem u32_lt {n : Int} (h : (Lit.int .u32 n).wf = true) : ∃ k : Nat, n = k ∧ k < 4294967296 := by
  have hb : 0 ≤ n ∧ n < 4294967296 := by
    simp [Lit.wf, IntKind.min, IntKind.max, IntKind.bits, IntKind.signed] at h
    omega
  exact ⟨n.toNat, by omega, by omega⟩

set_option maxRecDepth 100000 in
theorem open_pfx {H : Type} {enc : TypeId × Value → H} {W : World} {b : Nat} {v : Value} {d : DataW H} {p : List MemPlace}
    (hv : Value.okWide Tryd.prog W .any b 24 v) (h : DataW.Trod enc Tryd.prog W 0 (fun _ => true) true 24 v d p) : ∃ q : Pfx, q.ok ∧ v = .agg #[.int .u32 q.addr, .int .i64 q.len] := by
  obtain ⟨cs, rfl, hsz, k, hk⟩ := open_struct Tryd.underlying24 hv h
  obtain ⟨m0, y0, e0⟩ := open_field Tryd.underlying24 hk 0 22 0 1 rfl c2
  obtain ⟨m1, y1, e1⟩ := open_field Tryd.underlying24 hk 1 3 1 1 rfl c1
  obtain ⟨a, q0, -, wa⟩ := DataW.trod_int Tryd.underlying22 e0
  obtain ⟨n, q1, -, wn⟩ := DataW.trod_int Tryd.underlying3 e1
  obtain ⟨x, rfl, hx⟩ := u32_lt wa
  have h0 := one_at q0
  have h1 := one_at q1
  rw [c3] at hsz
  refine ⟨⟨x, n⟩, hx, ?_⟩
  obtain ⟨l⟩ := cs
  match l, hsz, h0, h1 with
  | [u, v], _, h0, h1 =>
    simp at h0 h1
    subst h0 h1
    rfl
set_option maxRecDepth 100000 in
theorem open_u32 {H : Type} {enc : TypeId × Value → H} {W : World} {b : Nat} {v : Value} {d : DataW H} {p : List MemPlace}
    (hv : Value.okWide Tryd.prog W .any b 22 v) (h : DataW.Trod enc Tryd.prog W 0 (fun _ => true) true 22 v d p) : ∃ x : Nat, x < 4294967296 ∧ v = .int .u32 x := by
  obtain ⟨n, rfl, rfl, rfl, wn⟩ := open_int Tryd.underlying22 hv h
  obtain ⟨x, rfl, hx⟩ := u32_lt wn
  exact ⟨x, hx, rfl⟩
set_option maxRecDepth 100000 in
theorem open_str {H : Type} {enc : TypeId × Value → H} {W : World} {b : Nat} {v : Value} {d : DataW H} {p : List MemPlace}
    (hv : Value.okWide Tryd.prog W .any b 9 v) (h : DataW.Trod enc Tryd.prog W 0 (fun _ => true) true 9 v d p) : ∃ s : ByteArray, s.size ≤ maxLen ∧ v = .string s := by
  obtain ⟨s, rfl⟩ := okWide_string Tryd.underlying9 hv
  obtain ⟨fuel, hf⟩ := h
  obtain ⟨s', h1, -, h3⟩ := DataW.trod_string Tryd.underlying9 hf
  simp [Value.cells] at h1
  subst h1
  exact ⟨s, h3, rfl⟩
set_option maxRecDepth 100000 in
theorem libOK {W : World} {laid : List (String × DataW Unit)} (j : Nat) (hj : laid[j]? = some ("internal/strconv.uint64pow10", Lib.tabData .u64 Lib.pow10Tab)) (hn : (laid.filter fun x => x.2.handleName?.isSome) = [])
    (hl : laidMetH Tryd.prog laid W) (hs : W.ShapedOpen Tryd.prog) : LibOK W where
  maxLen := cell_of_shapedOpen_int hs (of_decide_eq_true (by kernel_rfl)) (t := 3) (zero := #[.int .i64 0]) (by kernel_rfl) rfl (by kernel_rfl) (by kernel_rfl) Tryd.underlying3
  pow10 := by
    unfold laidMetH at hl
    rw [hn] at hl
    exact tabIs_of_mem gPow (t := 107) (by kernel_rfl) Tryd.underlying107 Tryd.underlying89 (by kernel_rfl) (by kernel_rfl) laid j hj hl

set_option maxRecDepth 100000 in
theorem addrTexts_lifted (os : Os) (started : os.Started) (H : Type) (enc : TypeId × Value → H) :
    ReturnsInHanded {} Tryd.checked os 3 .any (fun w args => (Rows.addrTextsSpec.pre enc Tryd.prog Tryd.f3 Rows.addrTextsRow.domain false w args ∧ laidMetH Tryd.prog Rows.addrTextsRow.laid w) ∧ sizedMet enc Tryd.prog Tryd.f3 (OpenSpec.ofChange Rows.addrTextsSpec) false w args) (Rows.addrTextsSpec.post enc Tryd.prog Tryd.f3 false true false false) :=
  law_lifted_open (C := Tryd.checked) own started (by kernel_rfl) Tryd.func3
    (ChangeSpec.witness_shaped (enc := enc) (C := Tryd.checked) (os := os) (X := fun w _ => laidMetH Tryd.prog Rows.addrTextsRow.laid w) false (World.laidAll Tryd.prog os Rows.addrTextsRow.laid) #[.string ⟨#[]⟩, .int .u32 0, .agg #[.int .u32 0, .int .i64 0]] 8 (World.laidAll_os _ _ _) (World.shaped_of_ZipB (by kernel_rfl) (by kernel_rfl)) (by kernel_rfl) (by kernel_rfl) (by kernel_rfl)
      (by rw [MakeChecks.laidMetH_plain _ _ _ (by kernel_rfl)]; exact laidMet_laidAll _ (by kernel_rfl) (by kernel_rfl)))
    rfl laidOut (by kernel_rfl) rfl Tryd.underlying4
    (fun ds h => by match ds, h with | [d0, d1, d2], _ => rfl)
    (fun W base args ds p hval hA _ hL hS => by
      rw [Tryd.params3] at hA hval
      have hok : LibOK W := libOK 2 rfl (by kernel_rfl) hL hS
      obtain ⟨v0, vs0, d0, ds0, p0, q0, hargs, rfl, rfl, h0, r0⟩ := trodAll_cons hA
      obtain ⟨v1, vs1, d1, ds1, p1, q1, rfl, rfl, rfl, h1, r1⟩ := trodAll_cons r0
      obtain ⟨v2, vs2, d2, ds2, p2, q2, rfl, rfl, rfl, h2, r2⟩ := trodAll_cons r1
      obtain ⟨rfl, rfl, rfl⟩ := trodAll_nil r2
      obtain rfl : args = #[v0, v1, v2] := by cases args; simp_all
      obtain ⟨x0, k0, rfl⟩ := open_str (hval 0 9 v0 rfl rfl) h0
      obtain ⟨x1, k1, rfl⟩ := open_u32 (hval 1 22 v1 rfl rfl) h1
      obtain ⟨x2, k2, rfl⟩ := open_pfx (hval 2 24 v2 rfl rfl) h2
      exact texts_walk x0 x1 k1 x2 k2 W hok)
theorem addrTexts_over : Rows.AddrTextsSaid :=
  OpenClaim.holds_of_wide 3 Tryd.f3 rfl rfl rfl rfl rfl rfl rfl ⟨rfl, rfl, rfl, rfl, rfl⟩ rfl rfl rfl rfl rfl (by kernel_rfl) Tryd.func3 (by kernel_rfl)
    (of_decide_eq_true (by kernel_rfl)) (by unfold Func.isWrapper; first | (rw [if_pos (by decide +kernel)]; kernel_rfl) | (rw [if_neg (by decide +kernel)]; exact ⟨rfl, rfl⟩))
    (fun os started H enc _ => addrTexts_lifted os started H enc)
theorem addrTexts_card : Rows.AddrTextsCardSaid :=
  Claim7.holds_tied_plain_at .later [] Rows.addrTextsCard.laidKinds true Rows.addrTextsCard.stood.harness true
    addrTexts_over (fun _ h => by cases h) (by kernel_rfl) (fun _ h => by cases h) addrTexts_row_tie rfl ⟨rfl, rfl⟩ (by kernel_rfl) rfl
    (fun f fn hf hfn => by
      obtain rfl : f = 3 := Option.some.inj ((show Tryd.prog.funcNamed "castellan/castellanlaw3.AddrTexts" = some 3 by kernel_rfl).symm.trans hf) |>.symm
      obtain rfl : fn = Tryd.f3 := (Option.some.inj (Tryd.func3.symm.trans hfn)).symm
      exact ⟨by kernel_rfl, fun j t ht => by
        rw [Tryd.params3] at ht
        have hm : t ∈ [9, 22, 24] := by simpa using Array.mem_of_getElem? ht
        have hall : ([9, 22, 24].all fun u => !Tryd.prog.wantsStandIn u) = true := by kernel_rfl
        exact (show Tryd.prog.wantsStandIn t = false by simpa using List.all_eq_true.1 hall t hm)⟩)
    (by kernel_rfl)

set_option maxRecDepth 100000 in
theorem addrBack_lifted (os : Os) (started : os.Started) (H : Type) (enc : TypeId × Value → H) :
    ReturnsInHanded {} Tryd.checked os 4 .any (fun w args => (Rows.addrBackSpec.pre enc Tryd.prog Tryd.f4 Rows.addrBackRow.domain false w args ∧ laidMetH Tryd.prog Rows.addrBackRow.laid w) ∧ sizedMet enc Tryd.prog Tryd.f4 (OpenSpec.ofChange Rows.addrBackSpec) false w args) (Rows.addrBackSpec.post enc Tryd.prog Tryd.f4 false true false false) :=
  law_lifted_open (C := Tryd.checked) own started (by kernel_rfl) Tryd.func4
    (ChangeSpec.witness_shaped (enc := enc) (C := Tryd.checked) (os := os) (X := fun w _ => laidMetH Tryd.prog Rows.addrBackRow.laid w) false (World.laidAll Tryd.prog os Rows.addrBackRow.laid) #[.int .u32 0, .int .i64 0] 8 (World.laidAll_os _ _ _) (World.shaped_of_ZipB (by kernel_rfl) (by kernel_rfl)) (by kernel_rfl) (by kernel_rfl) (by kernel_rfl)
      (by rw [MakeChecks.laidMetH_plain _ _ _ (by kernel_rfl)]; exact laidMet_laidAll _ (by kernel_rfl) (by kernel_rfl)))
    rfl laidOut (by kernel_rfl) rfl Tryd.underlying4
    (fun ds h => by match ds, h with | [d0, d1], _ => rfl)
    (fun W base args ds p hval hA _ hL hS => by
      rw [Tryd.params4] at hA hval
      have hok : LibOK W := libOK 2 rfl (by kernel_rfl) hL hS
      obtain ⟨v0, vs0, d0, ds0, p0, q0, hargs, rfl, rfl, h0, r0⟩ := trodAll_cons hA
      obtain ⟨v1, vs1, d1, ds1, p1, q1, rfl, rfl, rfl, h1, r1⟩ := trodAll_cons r0
      obtain ⟨rfl, rfl, rfl⟩ := trodAll_nil r1
      obtain rfl : args = #[v0, v1] := by cases args; simp_all
      obtain ⟨x0, k0, rfl⟩ := open_u32 (hval 0 22 v0 rfl rfl) h0
      obtain ⟨x1, rfl, rfl, rfl, k1⟩ := open_int Tryd.underlying3 (hval 1 3 v1 rfl rfl) h1
      exact back_walk x0 k0 x1 W hok)
theorem addrBack_over : Rows.AddrBackSaid :=
  OpenClaim.holds_of_wide 4 Tryd.f4 rfl rfl rfl rfl rfl rfl rfl ⟨rfl, rfl, rfl, rfl, rfl⟩ rfl rfl rfl rfl rfl (by kernel_rfl) Tryd.func4 (by kernel_rfl)
    (of_decide_eq_true (by kernel_rfl)) (by unfold Func.isWrapper; first | (rw [if_pos (by decide +kernel)]; kernel_rfl) | (rw [if_neg (by decide +kernel)]; exact ⟨rfl, rfl⟩))
    (fun os started H enc _ => addrBack_lifted os started H enc)
theorem addrBack_card : Rows.AddrBackCardSaid :=
  Claim7.holds_tied_plain_at .later [] Rows.addrBackCard.laidKinds true Rows.addrBackCard.stood.harness true
    addrBack_over (fun _ h => by cases h) (by kernel_rfl) (fun _ h => by cases h) addrBack_row_tie rfl ⟨rfl, rfl⟩ (by kernel_rfl) rfl
    (fun f fn hf hfn => by
      obtain rfl : f = 4 := Option.some.inj ((show Tryd.prog.funcNamed "castellan/castellanlaw3.AddrBack" = some 4 by kernel_rfl).symm.trans hf) |>.symm
      obtain rfl : fn = Tryd.f4 := (Option.some.inj (Tryd.func4.symm.trans hfn)).symm
      exact ⟨by kernel_rfl, fun j t ht => by
        rw [Tryd.params4] at ht
        have hm : t ∈ [22, 3] := by simpa using Array.mem_of_getElem? ht
        have hall : ([22, 3].all fun u => !Tryd.prog.wantsStandIn u) = true := by kernel_rfl
        exact (show Tryd.prog.wantsStandIn t = false by simpa using List.all_eq_true.1 hall t hm)⟩)
    (by kernel_rfl)

end Go.Proofs.YtefhoecdoemgbaaDoor.StD
namespace Go.Proofs.YtefhoecdoemgbaaDoor
theorem addrTexts_holds : Rows.AddrTextsCardSaid := StD.addrTexts_card
theorem addrBack_holds : Rows.AddrBackCardSaid := StD.addrBack_card
#print axioms addrTexts_holds
#print axioms addrBack_holds
end Go.Proofs.YtefhoecdoemgbaaDoor
