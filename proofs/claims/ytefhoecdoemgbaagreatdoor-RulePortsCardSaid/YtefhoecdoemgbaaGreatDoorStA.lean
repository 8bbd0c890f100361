/- castellanref3.Print and PrintPrefix. -/
import Derived.Test.YtefhoecdoemgbaaGreatDoorSt4
import Derived.Test.YtefhoecdoemgbaaGreatDoorSt7
namespace Go.Proofs.YtefhoecdoemgbaaGreatDoor.StA
open Go Go.RowKit Go.Proofs.YtefhoecdoemgbaaGreatDoor.Ad0 Go.Proofs.YtefhoecdoemgbaaGreatDoor.Ad1 Go.Proofs.YtefhoecdoemgbaaGreatDoor.Ad3 Go.Proofs.YtefhoecdoemgbaaGreatDoor.St0 Go.Proofs.YtefhoecdoemgbaaGreatDoor.St1 Go.Proofs.YtefhoecdoemgbaaGreatDoor.St2 Go.Proofs.YtefhoecdoemgbaaGreatDoor.St3 Go.Proofs.YtefhoecdoemgbaaGreatDoor.St4 Go.Proofs.YtefhoecdoemgbaaGreatDoor.St6 Go.Proofs.YtefhoecdoemgbaaGreatDoor.B1
set_option linter.unusedVariables false
set_option linter.unusedSimpArgs false

theorem oct0 (a : Nat) (ha : a < 4294967296) : ((a : Int) / 16777216) = ((octF a 0 : Nat) : Int) := by
  unfold octF
  simp
  omega
theorem oct1 (a : Nat) (ha : a < 4294967296) : wrap64 (bits .and .u32 ((a : Int) / 65536) 255) = ((octF a 1 : Nat) : Int) := by
  have := oct_wrap (a / 65536) (Nat.lt_of_le_of_lt (Nat.div_le_self _ _) ha)
  simpa [octF] using this
theorem oct2 (a : Nat) (ha : a < 4294967296) : wrap64 (bits .and .u32 ((a : Int) / 256) 255) = ((octF a 2 : Nat) : Int) := by
  have := oct_wrap (a / 256) (Nat.lt_of_le_of_lt (Nat.div_le_self _ _) ha)
  simpa [octF] using this
theorem oct3 (a : Nat) (ha : a < 4294967296) : wrap64 (bits .and .u32 (a : Int) 255) = ((octF a 3 : Nat) : Int) := by
  have := oct_wrap a ha
  simpa [octF] using this
theorem dec_oct (a j : Nat) (W : World) : Calls Tryz.prog 20 #[.int .i64 (octF a j : Nat)] W fun e w' => e = .returned (.string (octS a j)) ∧ Below W.heap.size W w' := by
  have : octF a j < 256 := Nat.mod_lt _ (by decide)
  have h := dec_any (octF a j) (by omega) W
  unfold octS
  rw [itoa_nat]
  exact h
theorem octS_size (a j : Nat) : (octS a j).size ≤ 3 := by rw [size_data]; exact octS_len a j
theorem printL_sum (a : Nat) : octS a 0 ++ ⟨#[46]⟩ ++ octS a 1 ++ ⟨#[46]⟩ ++ octS a 2 ++ ⟨#[46]⟩ ++ octS a 3 = ⟨(printL a).toArray⟩ := by
  apply ByteArray.ext
  apply Array.ext'
  simp [printL, octL, Lib.join, List.intercalate, List.intersperse, ByteArray.data_append]
theorem app_size (a b : ByteArray) : (a ++ b).size = a.size + b.size := ByteArray.size_append

set_option maxHeartbeats 2000000 in
theorem rprint_any (a : Nat) (ha : a < 4294967296) (w : World) :
    Calls Tryz.prog 57 #[.int .u32 a] w fun e w' => e = .returned (.string ⟨(printL a).toArray⟩) ∧ Below w.heap.size w w' := by
  have h0 := fun W => dec_oct a 0 W
  have h1 := fun W => dec_oct a 1 W
  have h2 := fun W => dec_oct a 2 W
  have h3 := fun W => dec_oct a 3 W
  rw [← printL_sum]
  have z0 := octS_size a 0
  have z1 := octS_size a 1
  have z2 := octS_size a 2
  have z3 := octS_size a 3
  generalize octS a 0 = s0 at *
  generalize octS a 1 = s1 at *
  generalize octS a 2 = s2 at *
  generalize octS a 3 = s3 at *
  have hd : (⟨#[46]⟩ : ByteArray).size = 1 := rfl
  have ha0 := fun W => run_string_add_sum (P := Tryz.prog) W s0 ⟨#[46]⟩ (by omega)
  have hz0 : (s0 ++ (⟨#[46]⟩ : ByteArray)).size = s0.size + (⟨#[46]⟩ : ByteArray).size := app_size _ _
  have hn0 : ¬ (9223372036854775807 < s0.size + 1) := by omega
  generalize s0 ++ (⟨#[46]⟩ : ByteArray) = t0 at ha0 hz0 ⊢
  have ha1 := fun W => run_string_add_sum (P := Tryz.prog) W t0 s1 (by omega)
  have hz1 : (t0 ++ s1).size = t0.size + s1.size := app_size _ _
  have hn1 : ¬ (9223372036854775807 < t0.size + s1.size) := by omega
  generalize t0 ++ s1 = t1 at ha1 hz1 ⊢
  have ha2 := fun W => run_string_add_sum (P := Tryz.prog) W t1 ⟨#[46]⟩ (by omega)
  have hz2 : (t1 ++ (⟨#[46]⟩ : ByteArray)).size = t1.size + (⟨#[46]⟩ : ByteArray).size := app_size _ _
  have hn2 : ¬ (9223372036854775807 < t1.size + 1) := by omega
  generalize t1 ++ (⟨#[46]⟩ : ByteArray) = t2 at ha2 hz2 ⊢
  have ha3 := fun W => run_string_add_sum (P := Tryz.prog) W t2 s2 (by omega)
  have hz3 : (t2 ++ s2).size = t2.size + s2.size := app_size _ _
  have hn3 : ¬ (9223372036854775807 < t2.size + s2.size) := by omega
  generalize t2 ++ s2 = t3 at ha3 hz3 ⊢
  have ha4 := fun W => run_string_add_sum (P := Tryz.prog) W t3 ⟨#[46]⟩ (by omega)
  have hz4 : (t3 ++ (⟨#[46]⟩ : ByteArray)).size = t3.size + (⟨#[46]⟩ : ByteArray).size := app_size _ _
  have hn4 : ¬ (9223372036854775807 < t3.size + 1) := by omega
  generalize t3 ++ (⟨#[46]⟩ : ByteArray) = t4 at ha4 hz4 ⊢
  have ha5 := fun W => run_string_add_sum (P := Tryz.prog) W t4 s3 (by omega)
  have hz5 : (t4 ++ s3).size = t4.size + s3.size := app_size _ _
  have hn5 : ¬ (9223372036854775807 < t4.size + s3.size) := by omega
  generalize t4 ++ s3 = t5 at ha5 hz5 ⊢
  clear z0 z1 z2 z3 hz0 hz1 hz2 hz3 hz4 hz5 hd
  have H0 := Lib.hid h0
  have H1 := Lib.hid h1
  have H2 := Lib.hid h2
  have H3 := Lib.hid h3
  clear h0 h1 h2 h3
  go_enter Tryz.func57, Tryz.ntmps57
  have X0 := Lib.hid (oct0 a ha)
  have X1 := Lib.hid (oct1 a ha)
  have X2 := Lib.hid (oct2 a ha)
  have X3 := Lib.hid (oct3 a ha)
  go_wp2_with (first
    | (go_at_call 20; rw [X0.out]; (with_reducible refine (H0.out _).mono ?_); rintro e w1 ⟨rfl, hb1⟩; have HB1 := Lib.hid hb1; clear hb1)
    | (go_at_call 20; rw [X1.out]; (with_reducible refine (H1.out _).mono ?_); rintro e w2 ⟨rfl, hb2⟩; have HB2 := Lib.hid (bstep HB1.out hb2 HB1.out.size); clear hb2)
    | (go_at_call 20; rw [X2.out]; (with_reducible refine (H2.out _).mono ?_); rintro e w3 ⟨rfl, hb3⟩; have HB3 := Lib.hid (bstep HB2.out hb3 HB2.out.size); clear hb3)
    | (go_at_call 20; rw [X3.out]; (with_reducible refine (H3.out _).mono ?_); rintro e w4 ⟨rfl, hb4⟩; have HB4 := Lib.hid (bstep HB3.out hb4 HB3.out.size); clear hb4))
  go_ret
  exact ⟨rfl, HB4.out⟩
theorem dec_len_any (n : Int) (h0 : 0 ≤ n) (h1 : n ≤ 9223372036854775807) (w : World) : Calls Tryz.prog 20 #[.int .i64 n] w fun e w' => e = .returned (.string ⟨(Lib.itoa n).toArray⟩) ∧ Below w.heap.size w w' := by
  obtain ⟨k, rfl⟩ := Int.eq_ofNat_of_zero_le h0
  have h := dec_any k (by omega) w
  rw [← itoa_nat] at h
  exact h
set_option maxHeartbeats 2000000 in
theorem rpprint_any (p : Pfx) (hp : p.addr < 4294967296) (w : World) (hl : LibOK w) :
    Calls Tryz.prog 84 #[.agg #[.int .u32 p.addr, .int .i64 p.len]] w fun e w' => e = .returned (.string ⟨(printP p).toArray⟩) ∧ Below w.heap.size w w' := by
  unfold printP
  obtain ⟨D0, D1, D2, D3⟩ : _ ∧ _ ∧ _ ∧ _ := box2 (heap_alloc_new w (.cells #[.int .u32 p.addr, .int .i64 p.len] 24))
  have DB := Lib.hid (bnew w (.cells #[.int .u32 p.addr, .int .i64 p.len] 24))
  have DL := Lib.hid (hl.below (bnew w (.cells #[.int .u32 p.addr, .int .i64 p.len] 24)))
  by_cases hlen : 0 ≤ p.len ∧ p.len ≤ 32
  · rw [if_pos hlen]
    obtain ⟨l0, l1⟩ := hlen
    have hn0 : ¬ p.len < 0 := by omega
    have hn1 : ¬ 32 < p.len := by omega
    have hI := fun W => dec_len_any p.len l0 (by omega) W
    have hil : (Lib.itoa p.len).length ≤ 3 := by
      obtain ⟨n, hn⟩ := Int.eq_ofNat_of_zero_le l0
      rw [hn]
      have e := congrArg List.length (itoa_nat n)
      have := dec_len n (by omega)
      exact (by rw [e]; exact this)
    have hpl := print_len p.addr
    have HI := Lib.hid hI
    have HP := Lib.hid (fun W => rprint_any p.addr hp W)
    clear l0 l1 hI
    have e1 : (⟨(printL p.addr).toArray⟩ : ByteArray) ++ ⟨#[47]⟩ ++ ⟨(Lib.itoa p.len).toArray⟩ = ⟨(printL p.addr ++ 47 :: Lib.itoa p.len).toArray⟩ := by
      apply ByteArray.ext
      simp [ByteArray.data_append]
    rw [← e1]
    have z1 : (⟨(printL p.addr).toArray⟩ : ByteArray).size = (printL p.addr).length := by rw [size_data]
    have z2 : (⟨(Lib.itoa p.len).toArray⟩ : ByteArray).size = (Lib.itoa p.len).length := by rw [size_data]
    generalize (⟨(printL p.addr).toArray⟩ : ByteArray) = s1 at HP z1 ⊢
    generalize (⟨(Lib.itoa p.len).toArray⟩ : ByteArray) = s3 at HI z2 ⊢
    have hadd1 := fun W => run_string_add_sum (P := Tryz.prog) W s1 ⟨#[47]⟩ (by show s1.size + 1 ≤ _; omega)
    have z3 : (s1 ++ ⟨#[47]⟩).size = s1.size + 1 := by rw [ByteArray.size_append]; rfl
    generalize (s1 ++ ⟨#[47]⟩) = s2 at hadd1 z3 ⊢
    have hadd2 := fun W => run_string_add_sum (P := Tryz.prog) W s2 s3 (by omega)
    generalize (s2 ++ s3) = s4 at hadd2 ⊢
    have hno1 : ¬ (9223372036854775807 < s1.size + 1) := by omega
    have hno2 : ¬ (9223372036854775807 < s2.size + s3.size) := by omega
    clear z1 z2 z3 e1 hil hpl
    go_enter Tryz.func84, Tryz.ntmps84
    go_wp2_with fail
    have hz : w.heap.size < w.heap.size + 1 := by omega
    go_region_held3 (fun w' => w'.cell? ⟨w.heap.size, 0, none⟩ = some (.int .u32 p.addr) ∧ w'.cell? ⟨w.heap.size, 1, none⟩ = some (.int .i64 p.len) ∧ w.heap.size ≤ w'.heap.size ∧ Below w.heap.size w w' ∧ LibOK w')
      (first | exact begin1 D0 D1 DB.out.size DB.out DL.out | exact keep1 (by assumption) (by assumption))
      (first
        | (go_at_call 57; (with_reducible refine (HP.out _).mono ?_); rintro e v1 ⟨rfl, hb1⟩)
        | (go_at_call 20; (with_reducible refine (HI.out _).mono ?_); rintro e v1 ⟨rfl, hb1⟩))
    go_wp2
    go_ret
    exact ⟨rfl, below5 (by assumption)⟩
  · rw [if_neg hlen]
    have hn : p.len < 0 ∨ 32 < p.len := by omega
    rcases hn with hn | hn
    · go_enter Tryz.func84, Tryz.ntmps84
      go_wp2_with fail
      go_ret
      exact ⟨rfl, DB.out⟩
    · have hn0 : ¬ p.len < 0 := by omega
      go_enter Tryz.func84, Tryz.ntmps84
      go_wp2_with fail
      go_ret
      exact ⟨rfl, DB.out⟩
end Go.Proofs.YtefhoecdoemgbaaGreatDoor.StA
