/- The walks of AddrTexts and AddrBack. -/
import Derived.Test.YtefhoecdoemgbaaDoorStC
import Derived.Test.YtefhoecdoemgbaaDoorAd4
import Derived.Test.YtefhoecdoemgbaaDoorEq
namespace Go.Proofs.YtefhoecdoemgbaaDoor.StB
open Go Go.RowKit Go.Proofs.YtefhoecdoemgbaaDoor.Ad0 Go.Proofs.YtefhoecdoemgbaaDoor.Ad1 Go.Proofs.YtefhoecdoemgbaaDoor.Ad3 Go.Proofs.YtefhoecdoemgbaaDoor.Ad4 Go.Proofs.YtefhoecdoemgbaaDoor.St0 Go.Proofs.YtefhoecdoemgbaaDoor.St1 Go.Proofs.YtefhoecdoemgbaaDoor.St2 Go.Proofs.YtefhoecdoemgbaaDoor.St3 Go.Proofs.YtefhoecdoemgbaaDoor.St4 Go.Proofs.YtefhoecdoemgbaaDoor.St5 Go.Proofs.YtefhoecdoemgbaaDoor.St6 Go.Proofs.YtefhoecdoemgbaaDoor.St7 Go.Proofs.YtefhoecdoemgbaaDoor.St8 Go.Proofs.YtefhoecdoemgbaaDoor.St9 Go.Proofs.YtefhoecdoemgbaaDoor.StA Go.Proofs.YtefhoecdoemgbaaDoor.StC Go.Proofs.YtefhoecdoemgbaaDoor.B1
set_option linter.unusedVariables false
set_option linter.unusedSimpArgs false

theorem parse_form (r : Option Nat) : ∃ x e : Int, parseV r = .tuple #[.int .u32 x, .int .i64 e] := by
  cases r with
  | none => exact ⟨0, 2, rfl⟩
  | some a => exact ⟨a, 0, rfl⟩
theorem pref_form (r : Option Pfx) : ∃ (q : Pfx) (e : Int), prefV r = .tuple #[.agg #[.int .u32 q.addr, .int .i64 q.len], .int .i64 e] := by
  cases r with
  | none => exact ⟨⟨0, 0⟩, 2, rfl⟩
  | some a => exact ⟨a, 0, rfl⟩
theorem keep3 {B : Nat} {w : World} {g k l : Nat} {c0 c1 d0 d1 e0 e1 : Value} {W w1 : World} (hb : Below W.heap.size W w1)
    (h : W.cell? ⟨g, 0, none⟩ = some c0 ∧ W.cell? ⟨g, 1, none⟩ = some c1 ∧ W.cell? ⟨k, 0, none⟩ = some d0 ∧ W.cell? ⟨k, 1, none⟩ = some d1 ∧ W.cell? ⟨l, 0, none⟩ = some e0 ∧ W.cell? ⟨l, 1, none⟩ = some e1 ∧ B ≤ W.heap.size ∧ Below B w W ∧ LibOK W) :
    w1.cell? ⟨g, 0, none⟩ = some c0 ∧ w1.cell? ⟨g, 1, none⟩ = some c1 ∧ w1.cell? ⟨k, 0, none⟩ = some d0 ∧ w1.cell? ⟨k, 1, none⟩ = some d1 ∧ w1.cell? ⟨l, 0, none⟩ = some e0 ∧ w1.cell? ⟨l, 1, none⟩ = some e1 ∧ B ≤ w1.heap.size ∧ Below B w w1 ∧ LibOK w1 :=
  ⟨kc h.1 hb, kc h.2.1 hb, kc h.2.2.1 hb, kc h.2.2.2.1 hb, kc h.2.2.2.2.1 hb, kc h.2.2.2.2.2.1 hb, Nat.le_trans h.2.2.2.2.2.2.1 hb.size, bstep h.2.2.2.2.2.2.2.1 hb h.2.2.2.2.2.2.1, h.2.2.2.2.2.2.2.2.below hb⟩
theorem begin3 {B : Nat} {w : World} {g k l : Nat} {c0 c1 d0 d1 e0 e1 : Value} {W : World} 
    (h : W.cell? ⟨g, 0, none⟩ = some c0 ∧ W.cell? ⟨g, 1, none⟩ = some c1 ∧ W.cell? ⟨k, 0, none⟩ = some d0 ∧ W.cell? ⟨k, 1, none⟩ = some d1 ∧ W.cell? ⟨l, 0, none⟩ = some e0 ∧ W.cell? ⟨l, 1, none⟩ = some e1 ∧ B ≤ W.heap.size ∧ Below B w W ∧ LibOK W) :
    W.drew.cell? ⟨g, 0, none⟩ = some c0 ∧ W.drew.cell? ⟨g, 1, none⟩ = some c1 ∧ W.drew.cell? ⟨k, 0, none⟩ = some d0 ∧ W.drew.cell? ⟨k, 1, none⟩ = some d1 ∧ W.drew.cell? ⟨l, 0, none⟩ = some e0 ∧ W.drew.cell? ⟨l, 1, none⟩ = some e1 ∧ B ≤ W.drew.heap.size ∧ Below B w W.drew ∧ LibOK W.drew :=
  ⟨h.1, h.2.1, h.2.2.1, h.2.2.2.1, h.2.2.2.2.1, h.2.2.2.2.2.1, h.2.2.2.2.2.2.1, h.2.2.2.2.2.2.2.1.drew, h.2.2.2.2.2.2.2.2.below (Below.refl _ _).drew⟩
theorem lib9 {A0 A1 A2 A3 A4 A5 A6 A7 : Prop} {W : World} (h : A0 ∧ A1 ∧ A2 ∧ A3 ∧ A4 ∧ A5 ∧ A6 ∧ A7 ∧ LibOK W) : LibOK W := h.2.2.2.2.2.2.2.2
theorem below9 {B : Nat} {w W : World} {A0 A1 A2 A3 A4 A5 A6 : Prop} (h : A0 ∧ A1 ∧ A2 ∧ A3 ∧ A4 ∧ A5 ∧ A6 ∧ Below B w W ∧ LibOK W) : Below B w W := h.2.2.2.2.2.2.2.1

set_option maxHeartbeats 2000000 in
theorem texts_walk (s : ByteArray) (a : Nat) (ha : a < 4294967296) (p : Pfx) (hp : p.ok) (w : World) (hl : LibOK w) :
    Calls Tryd.prog 3 #[.string s, .int .u32 a, .agg #[.int .u32 p.addr, .int .i64 p.len]] w fun e w' => e = .returned (.bool true) ∧ Below w.heap.size w w' := by
  by_cases hs : (100 : Int) < s.size
  · go_enter Tryd.func3, Tryd.ntmps3
    go_wp2_with fail
    go_ret
    exact ⟨rfl, bnew _ _⟩
  · obtain ⟨x, e0, hx⟩ := parse_form (parseL s.data.toList)
    obtain ⟨q, e1, hy⟩ := pref_form (prefL s.data.toList)
    have k1 := fun W hL => parse_any s (by omega) W hL
    have k2 := fun W => rparse_any s (by omega) W
    have k3 := fun W hL => pref_any s (by omega) W hL
    have k4 := fun W => rpref_any s (by omega) W
    rw [hx] at k1 k2
    rw [hy] at k3 k4
    have K1 := Lib.hid k1
    have K2 := Lib.hid k2
    have K3 := Lib.hid k3
    have K4 := Lib.hid k4
    clear k1 k2 k3 k4 hx hy
    have HB0 := Lib.hid (bnew w (.cells #[.int .u32 p.addr, .int .i64 p.len] 24))
    have HL0 := Lib.hid (hl.below (bnew w (.cells #[.int .u32 p.addr, .int .i64 p.len] 24)))
    have HR0 := Lib.hid (heap_alloc_new w (.cells #[.int .u32 p.addr, .int .i64 p.len] 24))
    go_enter Tryd.func3, Tryd.ntmps3
    go_wp2_with (first
      | (go_at_call 5; refine (K1.out _ HL0.out).mono ?_; rintro e w1 ⟨rfl, hb1⟩; have HB1 := Lib.hid (bstep HB0.out hb1 HB0.out.size); have HL1 := Lib.hid (HL0.out.below hb1); have HR1 := row_step HR0 hb1; clear hb1)
      | (go_at_call 6; refine (K2.out _).mono ?_; rintro e w2 ⟨rfl, hb2⟩; have HB2 := Lib.hid (bstep HB1.out hb2 HB1.out.size); have HL2 := Lib.hid (HL1.out.below hb2); have HR2 := row_step HR1 hb2; clear hb2)
      | (go_at_call 7; refine (K3.out _ HL2.out).mono ?_; rintro e w3 ⟨rfl, hb3⟩; have HB3 := Lib.hid (bstep HB2.out hb3 HB2.out.size); have HL3 := Lib.hid (HL2.out.below hb3); have HR3 := row_step HR2 hb3; clear hb3)
      | (go_at_call 8; refine (K4.out _).mono ?_; rintro e w4 ⟨rfl, hb4⟩; have HB4 := Lib.hid (bstep (HB3.out.alloc HB3.out.size (.cells #[.int .u32 q.addr, .int .i64 q.len] 24)) hb4 (by have := HB3.out.size; simp; omega)); have HL4 := Lib.hid ((HL3.out.below (bnew w3 (.cells #[.int .u32 q.addr, .int .i64 q.len] 24))).below hb4); have HR4 := row_step (row_step HR3 (bnew w3 (.cells #[.int .u32 q.addr, .int .i64 q.len] 24))) hb4; have HQ4 := row_step (Lib.hid (heap_alloc_new w3 (.cells #[.int .u32 q.addr, .int .i64 q.len] 24))) hb4; clear hb4))
    have D : (w4.alloc (.cells #[.int .u32 q.addr, .int .i64 q.len] 24)).cell? ⟨w.heap.size, 0, none⟩ = some (.int .u32 p.addr) ∧ (w4.alloc (.cells #[.int .u32 q.addr, .int .i64 q.len] 24)).cell? ⟨w.heap.size, 1, none⟩ = some (.int .i64 p.len) ∧
        (w4.alloc (.cells #[.int .u32 q.addr, .int .i64 q.len] 24)).cell? ⟨w3.heap.size, 0, none⟩ = some (.int .u32 q.addr) ∧ (w4.alloc (.cells #[.int .u32 q.addr, .int .i64 q.len] 24)).cell? ⟨w3.heap.size, 1, none⟩ = some (.int .i64 q.len) ∧
        (w4.alloc (.cells #[.int .u32 q.addr, .int .i64 q.len] 24)).cell? ⟨w4.heap.size, 0, none⟩ = some (.int .u32 q.addr) ∧ (w4.alloc (.cells #[.int .u32 q.addr, .int .i64 q.len] 24)).cell? ⟨w4.heap.size, 1, none⟩ = some (.int .i64 q.len) ∧
        w.heap.size ≤ (w4.alloc (.cells #[.int .u32 q.addr, .int .i64 q.len] 24)).heap.size ∧ Below w.heap.size w (w4.alloc (.cells #[.int .u32 q.addr, .int .i64 q.len] 24)) ∧ LibOK (w4.alloc (.cells #[.int .u32 q.addr, .int .i64 q.len] 24)) := by
      obtain ⟨a0, a1, -, -⟩ := box2 HR4.out
      obtain ⟨b0, b1, -, -⟩ := box2 HQ4.out
      obtain ⟨c0, c1, -, -⟩ := box2 (heap_alloc_new w4 (.cells #[.int .u32 q.addr, .int .i64 q.len] 24))
      have hb := bnew w4 (.cells #[.int .u32 q.addr, .int .i64 q.len] 24)
      exact ⟨kc a0 hb, kc a1 hb, kc b0 hb, kc b1 hb, c0, c1, (by have := HB4.out.size; simp; omega), HB4.out.alloc HB4.out.size _, HL4.out.below hb⟩
    clear HB0 HB1 HB2 HB3 HB4 HL0 HL1 HL2 HL3 HL4 HR0 HR1 HR2 HR3 HR4 HQ4 K1 K2 K3 K4
    generalize w4.alloc (.cells #[.int .u32 q.addr, .int .i64 q.len] 24) = W at D ⊢
    generalize w3.heap.size = g at D ⊢
    generalize w4.heap.size = k at D ⊢
    have c5 := Lib.hid (fun W (hL : LibOK W) => print_lib a ha W hL)
    have c6 := Lib.hid (fun W => rprint_any a ha W)
    have c7 := Lib.hid (fun W (hL : LibOK W) => pprint_any p hp W hL)
    have c8 := Lib.hid (fun W (hL : LibOK W) => rpprint_any p hp W hL)
    have heq : ∀ W, (binOp .eql 24 (.agg #[.int .u32 q.addr, .int .i64 q.len]) (.agg #[.int .u32 q.addr, .int .i64 q.len])).run Tryd.prog W = .ok (.bool true) W := fun W => by rw [eql_pfx q q]; simp
    go_region_held3 (fun w' => w'.cell? ⟨w.heap.size, 0, none⟩ = some (.int .u32 p.addr) ∧ w'.cell? ⟨w.heap.size, 1, none⟩ = some (.int .i64 p.len) ∧ w'.cell? ⟨g, 0, none⟩ = some (.int .u32 q.addr) ∧ w'.cell? ⟨g, 1, none⟩ = some (.int .i64 q.len) ∧ w'.cell? ⟨k, 0, none⟩ = some (.int .u32 q.addr) ∧ w'.cell? ⟨k, 1, none⟩ = some (.int .i64 q.len) ∧ w.heap.size ≤ w'.heap.size ∧ Below w.heap.size w w' ∧ LibOK w')
      (first | exact begin3 D | exact keep3 (by assumption) (by assumption))
      (first
        | (go_at_call 9; (with_reducible refine (c5.out _ (lib9 (by assumption))).mono ?_); rintro e v1 ⟨rfl, hb1⟩)
        | (go_at_call 10; (with_reducible refine (c6.out _).mono ?_); rintro e v1 ⟨rfl, hb1⟩)
        | (go_at_call 11; (with_reducible refine (c7.out _ (lib9 (by assumption))).mono ?_); rintro e v1 ⟨rfl, hb1⟩)
        | (go_at_call 12; (with_reducible refine (c8.out _ (lib9 (by assumption))).mono ?_); rintro e v1 ⟨rfl, hb1⟩)
        | (go_at_call 13; (with_reducible refine (known_any _).mono ?_); rintro e v1 ⟨rfl, hb1⟩))
    go_wp2
    go_ret
    exact ⟨rfl, below9 (by assumption)⟩
theorem and_low_i64 (n : Int) : bits .and .i64 n 31 = n % 32 := by
  unfold bits
  show IntKind.i64.wrap (((BitVec.ofInt 64 n) &&& (BitVec.ofInt 64 31)).toNat : Int) = n % 32
  have h : ((BitVec.ofInt 64 n) &&& (BitVec.ofInt 64 31)).toNat = (n % 32).toNat := by
    rw [BitVec.toNat_and, BitVec.toNat_ofInt, show (BitVec.ofInt 64 31).toNat = 2 ^ 5 - 1 from by decide, Nat.and_two_pow_sub_one_eq_mod]
    have : ((n % ((2 ^ 64 : Nat) : Int)).toNat : Int) = n % 18446744073709551616 := by
      rw [Int.toNat_of_nonneg (Int.emod_nonneg _ (by decide))]; rfl
    omega
  rw [h, Int.toNat_of_nonneg (by omega)]
  have : 0 ≤ n % 32 ∧ n % 32 < 32 := by omega
  generalize n % 32 = m at this
  simp [IntKind.wrap, IntKind.signed, IntKind.bits]
  omega
theorem and_31 (n : Int) : ∃ m : Nat, m ≤ 31 ∧ bits .and .i64 n 31 = (m : Int) := by
  refine ⟨(n % 32).toNat, by omega, ?_⟩
  have h := and_low_i64 n
  rw [h]
  omega

set_option maxHeartbeats 2000000 in
theorem back_walk (a : Nat) (ha : a < 4294967296) (n : Int) (w : World) (hl : LibOK w) :
    Calls Tryd.prog 4 #[.int .u32 a, .int .i64 n] w fun e w' => e = .returned (.bool true) ∧ Below w.heap.size w w' := by
  obtain ⟨m, hm, hb⟩ := and_31 n
  have hz : (⟨(printL a).toArray⟩ : ByteArray).size = (printL a).length := by rw [size_data]
  have hz1 := print_len a
  have K1 := Lib.hid (fun W (hL : LibOK W) => print_lib a ha W hL)
  have k2 := fun W (hL : LibOK W) => parse_any ⟨(printL a).toArray⟩ (by omega) W hL
  have hpl : (⟨(printL a).toArray⟩ : ByteArray).data.toList = printL a := rfl
  rw [hpl, back_addr a ha] at k2
  have K2 : Hid (∀ W, LibOK W → Calls Tryd.prog 5 #[.string ⟨(printL a).toArray⟩] W fun e w' => e = .returned (.tuple #[.int .u32 (a : Nat), .int .i64 0]) ∧ Below W.heap.size W w') := k2
  have K3 := Lib.hid (fun W (hL : LibOK W) => pprint_any ⟨a, m⟩ ha W hL)
  have hq : (⟨(printP ⟨a, m⟩).toArray⟩ : ByteArray).size < 4294967281 := by
    rw [size_data]
    show (printP ⟨a, m⟩).length < _
    unfold printP
    rw [if_pos (by simp; omega)]
    have e : Lib.itoa ((⟨a, m⟩ : Pfx).len) = Lib.decDigits m := itoa_nat m
    rw [e]
    have := dec_len m (by omega)
    simp only [List.length_append, List.length_cons]
    omega
  have k4 := fun W (hL : LibOK W) => pref_any ⟨(printP ⟨a, m⟩).toArray⟩ hq W hL
  have hpp : (⟨(printP ⟨a, m⟩).toArray⟩ : ByteArray).data.toList = printP ⟨a, m⟩ := rfl
  rw [hpp, back_pfx a m ha (by omega)] at k4
  have K4 : Hid (∀ W, LibOK W → Calls Tryd.prog 7 #[.string ⟨(printP ⟨a, m⟩).toArray⟩] W fun e w' => e = .returned (.tuple #[.agg #[.int .u32 (a : Nat), .int .i64 (m : Nat)], .int .i64 0]) ∧ Below W.heap.size W w') := k4
  clear k2 k4 hpl hpp hq hz hz1
  generalize (⟨(printL a).toArray⟩ : ByteArray) = s1 at K1 K2
  generalize (⟨(printP ⟨a, m⟩).toArray⟩ : ByteArray) = s2 at K3 K4
  have heq : ∀ W, (binOp .eql 24 (.agg #[.int .u32 (a : Nat), .int .i64 (m : Nat)]) (.agg #[.int .u32 (a : Nat), .int .i64 (m : Nat)])).run Tryd.prog W = .ok (.bool true) W := fun W => by rw [eql_pfx ⟨a, m⟩ ⟨a, m⟩]; simp
  have HL0 := Lib.hid (hl.below (bnew w (.cells #[.int .u32 a, .int .i64 m] 24)))
  have HB0 := Lib.hid (bnew w (.cells #[.int .u32 a, .int .i64 m] 24))
  have HR0 := Lib.hid (heap_alloc_new w (.cells #[.int .u32 a, .int .i64 m] 24))
  go_enter Tryd.func4, Tryd.ntmps4
  go_wp2_with (first
    | (go_at_call 9; refine (K1.out _ HL0.out).mono ?_; rintro e w1 ⟨rfl, hb1⟩; have HB1 := Lib.hid (bstep HB0.out hb1 HB0.out.size); have HL1 := Lib.hid (HL0.out.below hb1); have HR1 := row_step HR0 hb1; clear hb1)
    | (go_at_call 5; refine (K2.out _ HL1.out).mono ?_; rintro e w2 ⟨rfl, hb2⟩; have HB2 := Lib.hid (bstep HB1.out hb2 HB1.out.size); have HL2 := Lib.hid (HL1.out.below hb2); have HR2 := row_step HR1 hb2; obtain ⟨d0, d1, d2, d3⟩ := box2 HR2.out; clear hb2)
    | (go_at_call 11; refine (K3.out _ HL2.out).mono ?_; rintro e w3 ⟨rfl, hb3⟩; have HB3 := Lib.hid (bstep HB2.out hb3 HB2.out.size); have HL3 := Lib.hid (HL2.out.below hb3); have HR3 := row_step HR2 hb3; clear hb3)
    | (go_at_call 7; refine (K4.out _ HL3.out).mono ?_; rintro e w4 ⟨rfl, hb4⟩; have HB4 := Lib.hid (bstep HB3.out hb4 HB3.out.size); have HR4 := row_step HR3 hb4; obtain ⟨d0, d1, d2, d3⟩ := box2 HR4.out; have f0 := kc d0 (bnew w4 (.cells #[.int .u32 (a : Nat), .int .i64 (m : Nat)] 24)); have f1 := kc d1 (bnew w4 (.cells #[.int .u32 (a : Nat), .int .i64 (m : Nat)] 24)); have HB4 := Lib.hid (HB4.out.alloc HB4.out.size (.cells #[.int .u32 (a : Nat), .int .i64 (m : Nat)] 24)); clear hb4)
    | (go_at_call 13; refine (known_any _).mono ?_; rintro e w5 ⟨rfl, hb5⟩; have HB5 := Lib.hid (bstep HB4.out hb5 HB4.out.size)))
  go_ret
  exact ⟨rfl, HB5.out⟩
end Go.Proofs.YtefhoecdoemgbaaDoor.StB
