/- addr.PrintPrefix, strconv.Itoa and addr.Print where the library's table is given. -/
import Derived.Test.YtefhoecdoemgbaaGreatDoorAd3
import Derived.Test.YtefhoecdoemgbaaGreatDoorSt3
namespace Go.Proofs.YtefhoecdoemgbaaGreatDoor.St4
open Go Go.RowKit Go.Proofs.YtefhoecdoemgbaaGreatDoor.Ad0 Go.Proofs.YtefhoecdoemgbaaGreatDoor.Ad1 Go.Proofs.YtefhoecdoemgbaaGreatDoor.Ad3 Go.Proofs.YtefhoecdoemgbaaGreatDoor.St0 Go.Proofs.YtefhoecdoemgbaaGreatDoor.St1 Go.Proofs.YtefhoecdoemgbaaGreatDoor.St2 Go.Proofs.YtefhoecdoemgbaaGreatDoor.St3 Go.Proofs.YtefhoecdoemgbaaGreatDoor.B1
set_option linter.unusedVariables false
set_option linter.unusedSimpArgs false

theorem below_grow {B : Nat} (w : World) (k : Nat) (os : Array Obj) (hB : B ≤ w.heap.size) : Below B w (Sort.grow (w.drewN k) os) := by
  refine ⟨rfl, rfl, rfl, by simp [Sort.grow, World.drewN], fun i hi => ?_⟩
  simp only [Sort.grow, World.drewN]
  rw [Array.getElem?_append_left (by omega)]
theorem itoa_any (n : Int) (h0 : -9223372036854775808 ≤ n) (h1 : n ≤ 9223372036854775807) (w : World) (hl : LibOK w) :
    Calls Tryz.prog 47 #[.int .i64 n] w fun e w' => e = .returned (.string ⟨(Lib.itoa n).toArray⟩) ∧ Below w.heap.size w w' := by
  refine (Tryz.strconv_Itoa n h0 h1 w hl.pow10).mono ?_
  rintro e w' ⟨rfl, k, os, rfl⟩
  exact ⟨rfl, below_grow w k os (Nat.le_refl _)⟩
def printL (a : Nat) : List UInt8 := Lib.join ((octL a).map (·.data.toList)) [46]
theorem print_lib (a : Nat) (ha : a < 4294967296) (w : World) (hl : LibOK w) :
    Calls Tryz.prog 48 #[.int .u32 a] w fun e w' => e = .returned (.string ⟨(printL a).toArray⟩) ∧ Below w.heap.size w w' := by
  refine print_any a ha w fun j hj W hb => ?_
  exact itoa_any _ (by omega) (by have : octF a j < 256 := Nat.mod_lt _ (by decide); omega) W (hl.below hb)

/-- addr.PrintPrefix. -/
def printP (p : Pfx) : List UInt8 := if 0 ≤ p.len ∧ p.len ≤ 32 then printL p.addr ++ 47 :: Lib.itoa p.len else []

theorem keep1 {B : Nat} {w : World} {g : Nat} {c0 c1 : Value} {W w1 : World} (hb : Below W.heap.size W w1)
    (h : W.cell? ⟨g, 0, none⟩ = some c0 ∧ W.cell? ⟨g, 1, none⟩ = some c1 ∧ B ≤ W.heap.size ∧ Below B w W ∧ LibOK W) :
    w1.cell? ⟨g, 0, none⟩ = some c0 ∧ w1.cell? ⟨g, 1, none⟩ = some c1 ∧ B ≤ w1.heap.size ∧ Below B w w1 ∧ LibOK w1 :=
  ⟨(hb.cell (World.block_lt_of_cell? W _ h.1)).trans h.1, (hb.cell (World.block_lt_of_cell? W _ h.2.1)).trans h.2.1, Nat.le_trans h.2.2.1 hb.size, bstep h.2.2.2.1 hb h.2.2.1, h.2.2.2.2.below hb⟩
theorem begin1 {B : Nat} {w : World} {g : Nat} {c0 c1 : Value} {W : World} (h0 : W.cell? ⟨g, 0, none⟩ = some c0) (h1 : W.cell? ⟨g, 1, none⟩ = some c1) (hs : B ≤ W.heap.size) (hb : Below B w W) (hl : LibOK W) :
    W.drew.cell? ⟨g, 0, none⟩ = some c0 ∧ W.drew.cell? ⟨g, 1, none⟩ = some c1 ∧ B ≤ W.drew.heap.size ∧ Below B w W.drew ∧ LibOK W.drew :=
  ⟨h0, h1, hs, hb.drew, hl.below (Below.refl _ _).drew⟩
theorem lib5 {B : Nat} {w : World} {g : Nat} {c0 c1 : Value} {W : World} (h : W.cell? ⟨g, 0, none⟩ = some c0 ∧ W.cell? ⟨g, 1, none⟩ = some c1 ∧ B ≤ W.heap.size ∧ Below B w W ∧ LibOK W) : LibOK W := h.2.2.2.2
theorem below5 {B : Nat} {w : World} {g : Nat} {c0 c1 : Value} {W : World} (h : W.cell? ⟨g, 0, none⟩ = some c0 ∧ W.cell? ⟨g, 1, none⟩ = some c1 ∧ B ≤ W.heap.size ∧ Below B w W ∧ LibOK W) : Below B w W := h.2.2.2.1
theorem print_len (a : Nat) : (printL a).length ≤ 15 := join_len a

set_option maxHeartbeats 2000000 in
theorem pprint_any (p : Pfx) (hp : p.addr < 4294967296) (w : World) (hl : LibOK w) :
    Calls Tryz.prog 77 #[.agg #[.int .u32 p.addr, .int .i64 p.len]] w fun e w' => e = .returned (.string ⟨(printP p).toArray⟩) ∧ Below w.heap.size w w' := by
  unfold printP
  obtain ⟨D0, D1, D2, D3⟩ : _ ∧ _ ∧ _ ∧ _ := box2 (heap_alloc_new w (.cells #[.int .u32 p.addr, .int .i64 p.len] 24))
  have DB := Lib.hid (bnew w (.cells #[.int .u32 p.addr, .int .i64 p.len] 24))
  have DL := Lib.hid (hl.below (bnew w (.cells #[.int .u32 p.addr, .int .i64 p.len] 24)))
  by_cases hlen : 0 ≤ p.len ∧ p.len ≤ 32
  · rw [if_pos hlen]
    obtain ⟨l0, l1⟩ := hlen
    have hn0 : ¬ p.len < 0 := by omega
    have hn1 : ¬ 32 < p.len := by omega
    have hI := fun W hL => itoa_any p.len (by omega) (by omega) W hL
    have hil : (Lib.itoa p.len).length ≤ 3 := by
      obtain ⟨n, hn⟩ := Int.eq_ofNat_of_zero_le l0
      rw [hn]
      have e := congrArg List.length (itoa_nat n)
      have := dec_len n (by omega)
      exact (by rw [e]; exact this)
    have hpl := print_len p.addr
    have HI := Lib.hid hI
    have HP := Lib.hid (fun W hL => print_lib p.addr hp W hL)
    clear l0 l1 hI
    have e1 : (⟨(printL p.addr).toArray⟩ : ByteArray) ++ ⟨#[47]⟩ ++ ⟨(Lib.itoa p.len).toArray⟩ = ⟨(printL p.addr ++ 47 :: Lib.itoa p.len).toArray⟩ := by
      apply ByteArray.ext
      simp [ByteArray.data_append]
    rw [← e1]
    have z1 : (⟨(printL p.addr).toArray⟩ : ByteArray).size = (printL p.addr).length := by rw [size_data]
    have z2 : (⟨(Lib.itoa p.len).toArray⟩ : ByteArray).size = (Lib.itoa p.len).length := by rw [size_data]
    generalize (⟨(printL p.addr).toArray⟩ : ByteArray) = s1 at HP z1 ⊢
    generalize (⟨(Lib.itoa p.len).toArray⟩ : ByteArray) = s3 at HI z2 ⊢
    have hadd1 := fun W => run_string_add_sum (P := Tryz.prog) W s1 ⟨#[47]⟩ (by show s1.size + 1 ≤ _; omega)
    have z3 : (s1 ++ ⟨#[47]⟩).size = s1.size + 1 := by rw [ByteArray.size_append]; rfl
    generalize (s1 ++ ⟨#[47]⟩) = s2 at hadd1 z3 ⊢
    have hadd2 := fun W => run_string_add_sum (P := Tryz.prog) W s2 s3 (by omega)
    generalize (s2 ++ s3) = s4 at hadd2 ⊢
    have hno1 : ¬ (9223372036854775807 < s1.size + 1) := by omega
    have hno2 : ¬ (9223372036854775807 < s2.size + s3.size) := by omega
    clear z1 z2 z3 e1 hil hpl
    go_enter Tryz.func77, Tryz.ntmps77
    go_wp2_with fail
    have hz : w.heap.size < w.heap.size + 1 := by omega
    go_region_held3 (fun w' => w'.cell? ⟨w.heap.size, 0, none⟩ = some (.int .u32 p.addr) ∧ w'.cell? ⟨w.heap.size, 1, none⟩ = some (.int .i64 p.len) ∧ w.heap.size ≤ w'.heap.size ∧ Below w.heap.size w w' ∧ LibOK w')
      (first | exact begin1 D0 D1 DB.out.size DB.out DL.out | exact keep1 (by assumption) (by assumption))
      (first
        | (go_at_call 48; (with_reducible refine (HP.out _ (lib5 (by assumption))).mono ?_); rintro e v1 ⟨rfl, hb1⟩)
        | (go_at_call 47; (with_reducible refine (HI.out _ (lib5 (by assumption))).mono ?_); rintro e v1 ⟨rfl, hb1⟩))
    go_wp2
    go_ret
    exact ⟨rfl, below5 (by assumption)⟩
  · rw [if_neg hlen]
    have hn : p.len < 0 ∨ 32 < p.len := by omega
    rcases hn with hn | hn
    · go_enter Tryz.func77, Tryz.ntmps77
      go_wp2_with fail
      go_ret
      exact ⟨rfl, DB.out⟩
    · have hn0 : ¬ p.len < 0 := by omega
      go_enter Tryz.func77, Tryz.ntmps77
      go_wp2_with fail
      go_ret
      exact ⟨rfl, DB.out⟩
end Go.Proofs.YtefhoecdoemgbaaGreatDoor.St4
