/- addr.Print: four numbers in decimal, joined by dots. What a callee (strconv.Itoa) returns of the four is taken as a hypothesis, so that the contract serves with and without the library's table. -/
import Derived.Test.YtnmbbnhgoedjgaaGreatDoorQAd2
import Derived.Test.YtnmbbnhgoedjgaaGreatDoorQB1
import Derived.Test.YtnmbbnhgoedjgaaGreatDoorQShelf
import Derived.Lib.ItoaNum
import Derived.LoopTactic
import Derived.Deep.AppendLies
namespace Go.Proofs.YtnmbbnhgoedjgaaGreatDoor.Ad3
open Go Go.RowKit Go.Proofs.YtnmbbnhgoedjgaaGreatDoor.Ad1 Go.Proofs.YtnmbbnhgoedjgaaGreatDoor.B1
set_option linter.unusedVariables false
set_option linter.unusedSimpArgs false
def octF (a : Nat) (j : Nat) : Nat := a / 2 ^ (24 - 8 * j) % 256
def octS (a : Nat) (j : Nat) : ByteArray := ⟨(Lib.itoa (octF a j : Nat)).toArray⟩
def octL (a : Nat) : List ByteArray := [octS a 0, octS a 1, octS a 2, octS a 3]
theorem info9 : (Tryz.prog.info? 9).map (fun i => (i.zero, i.size, i.bytes)) = some (some (.string ByteArray.empty), 1, 16) := by kernel_rfl
theorem oct_wrap (x : Nat) (hx : x < 4294967296) : wrap64 (bits .and .u32 (x : Int) 255) = ((x % 256 : Nat) : Int) := by
  have h := u32_and_nat x 255 hx (by decide)
  rw [show ((255 : Nat) : Int) = 255 from rfl] at h
  rw [h, show x &&& 255 = x % 256 from Nat.and_two_pow_sub_one_eq_mod x 8]
  have : x % 256 < 256 := Nat.mod_lt _ (by decide)
  unfold wrap64
  omega
theorem dec_len (n : Nat) (h : n < 1000) : (Lib.decDigits n).length ≤ 3 := by
  have : ∀ m : Fin 1000, (Lib.decDigits m.val).length ≤ 3 := by decide +kernel
  exact this ⟨n, h⟩
theorem itoa_nat (n : Nat) : Lib.itoa (n : Int) = Lib.decDigits n := by
  unfold Lib.itoa
  rw [if_neg (by omega)]
  rfl
theorem octS_list (a j : Nat) : (octS a j).data.toList = Lib.decDigits (octF a j) := by
  unfold octS
  rw [itoa_nat]
theorem octS_len (a j : Nat) : (octS a j).data.toList.length ≤ 3 := by
  rw [octS_list]
  exact dec_len _ (Nat.lt_trans (Nat.mod_lt _ (by decide)) (by decide))
theorem join_len (a : Nat) : (Lib.join ((octL a).map (·.data.toList)) [46]).length ≤ 15 := by
  have h0 := octS_len a 0
  have h1 := octS_len a 1
  have h2 := octS_len a 2
  have h3 := octS_len a 3
  have e : Lib.join ((octL a).map (·.data.toList)) [46] = (octS a 0).data.toList ++ ([46] ++ ((octS a 1).data.toList ++ ([46] ++ ((octS a 2).data.toList ++ ([46] ++ (octS a 3).data.toList))))) := by
    simp [octL, Lib.join, List.intercalate, List.intersperse]
  rw [e]
  simp only [List.length_append, List.length_cons, List.length_nil]
  omega
set_option maxHeartbeats 1000000 in
theorem print_any (a : Nat) (ha : a < 4294967296) (w : World)
    (hI : ∀ j, j < 4 → ∀ W, Below w.heap.size w W → Calls Tryz.prog 75 #[.int .i64 (octF a j : Nat)] W fun e W' => e = .returned (.string (octS a j)) ∧ Below W.heap.size W W') :
    Calls Tryz.prog 127 #[.int .u32 a] w fun e w' => e = .returned (.string ⟨(Lib.join ((octL a).map (·.data.toList)) [46]).toArray⟩) ∧ Below w.heap.size w w' := by
  obtain ⟨i0, hi, hz0, hz1, hz2⟩ := info_parts info9
  have HI := Lib.hid hI
  clear hI
  go_enter Tryz.func127, Tryz.ntmps127
  go_wp2
  go_loopw [3, 4] (fun v i wr => ∃ j : Nat, j ≤ 4 ∧ i = .int .i64 (24 - 8 * (j : Int)) ∧ wr.ownsRow w.heap.size 9 1 v j (((octL a).take j).map Value.string) ∧ Below w.heap.size w wr) (fun _ i _ => (intOf i + 8).toNat)
  case atStart => exact ⟨0, by omega, rfl, World.ownsRow_nil _ _ _ _, Below.refl _ _⟩
  case round =>
    obtain ⟨j, hj, rfl, hown, hbl⟩ := hrel
    have HB := Lib.hid hbl
    have HO := Lib.hid hown
    clear hbl hown
    match j, hj with
    | 0, _ =>
      have hx : wrap64 (bits .and .u32 ((a : Int) / 16777216) 255) = ((octF a 0 : Nat) : Int) := by
        have := oct_wrap (a / 16777216) (Nat.lt_of_le_of_lt (Nat.div_le_self _ _) ha)
        simpa [octF] using this
      have HX := Lib.hid hx
      clear hx
      go_wp2_with fail
      rw [HX.out]
      refine (HI.out 0 (by decide) _ HB.out).mono ?_
      rintro e w1 ⟨rfl, hb1⟩
      have HO1 := Lib.hid (own_below HO.out hb1)
      have HB1 := Lib.hid (bstep HB.out hb1 HB.out.size)
      clear hb1
      go_wp2_with (at_builtin; refine wpList_append_one rfl _ _ 55 rfl w.heap.size 9 (.string ByteArray.empty) 16 Tryz.underlying55 info9 rfl _ _ _ rfl HO1.out (.string (octS a 0)) rfl rfl (by decide) (by decide) HB1.out.size ?_; intro v' w' ho hb hz hn; have HO2 := Lib.hid ho; have HB2 := Lib.hid (HB1.out.trans hb); clear ho hb hz hn)
      go_roundw
      case rel => exact ⟨1, by omega, rfl, HO2.out, HB2.out⟩
      case measure => simp [intOf]
    | 1, _ =>
      have hx : wrap64 (bits .and .u32 ((a : Int) / 65536) 255) = ((octF a 1 : Nat) : Int) := by
        have := oct_wrap (a / 65536) (Nat.lt_of_le_of_lt (Nat.div_le_self _ _) ha)
        simpa [octF] using this
      have HX := Lib.hid hx
      clear hx
      go_wp2_with fail
      rw [HX.out]
      refine (HI.out 1 (by decide) _ HB.out).mono ?_
      rintro e w1 ⟨rfl, hb1⟩
      have HO1 := Lib.hid (own_below HO.out hb1)
      have HB1 := Lib.hid (bstep HB.out hb1 HB.out.size)
      clear hb1
      go_wp2_with (at_builtin; refine wpList_append_one rfl _ _ 55 rfl w.heap.size 9 (.string ByteArray.empty) 16 Tryz.underlying55 info9 rfl _ _ _ rfl HO1.out (.string (octS a 1)) rfl rfl (by decide) (by decide) HB1.out.size ?_; intro v' w' ho hb hz hn; have HO2 := Lib.hid ho; have HB2 := Lib.hid (HB1.out.trans hb); clear ho hb hz hn)
      go_roundw
      case rel => exact ⟨2, by omega, rfl, HO2.out, HB2.out⟩
      case measure => simp [intOf]
    | 2, _ =>
      have hx : wrap64 (bits .and .u32 ((a : Int) / 256) 255) = ((octF a 2 : Nat) : Int) := by
        have := oct_wrap (a / 256) (Nat.lt_of_le_of_lt (Nat.div_le_self _ _) ha)
        simpa [octF] using this
      have HX := Lib.hid hx
      clear hx
      go_wp2_with fail
      rw [HX.out]
      refine (HI.out 2 (by decide) _ HB.out).mono ?_
      rintro e w1 ⟨rfl, hb1⟩
      have HO1 := Lib.hid (own_below HO.out hb1)
      have HB1 := Lib.hid (bstep HB.out hb1 HB.out.size)
      clear hb1
      go_wp2_with (at_builtin; refine wpList_append_one rfl _ _ 55 rfl w.heap.size 9 (.string ByteArray.empty) 16 Tryz.underlying55 info9 rfl _ _ _ rfl HO1.out (.string (octS a 2)) rfl rfl (by decide) (by decide) HB1.out.size ?_; intro v' w' ho hb hz hn; have HO2 := Lib.hid ho; have HB2 := Lib.hid (HB1.out.trans hb); clear ho hb hz hn)
      go_roundw
      case rel => exact ⟨3, by omega, rfl, HO2.out, HB2.out⟩
      case measure => simp [intOf]
    | 3, _ =>
      have hx : wrap64 (bits .and .u32 ((a : Int)) 255) = ((octF a 3 : Nat) : Int) := by
        have := oct_wrap (a / 1) (Nat.lt_of_le_of_lt (Nat.div_le_self _ _) ha)
        simpa [octF] using this
      have HX := Lib.hid hx
      clear hx
      go_wp2_with fail
      rw [HX.out]
      refine (HI.out 3 (by decide) _ HB.out).mono ?_
      rintro e w1 ⟨rfl, hb1⟩
      have HO1 := Lib.hid (own_below HO.out hb1)
      have HB1 := Lib.hid (bstep HB.out hb1 HB.out.size)
      clear hb1
      go_wp2_with (at_builtin; refine wpList_append_one rfl _ _ 55 rfl w.heap.size 9 (.string ByteArray.empty) 16 Tryz.underlying55 info9 rfl _ _ _ rfl HO1.out (.string (octS a 3)) rfl rfl (by decide) (by decide) HB1.out.size ?_; intro v' w' ho hb hz hn; have HO2 := Lib.hid ho; have HB2 := Lib.hid (HB1.out.trans hb); clear ho hb hz hn)
      go_roundw
      case rel => exact ⟨4, by omega, rfl, HO2.out, HB2.out⟩
      case measure => simp [intOf]
    | 4, _ =>
      obtain ⟨g, cap, rfl, hg, hlt⟩ := HO.out.form (by omega)
      have hcap : 4 ≤ cap := own_cap HO.out
      have hcells : ∀ (j : Nat) x, (octL a)[j]? = some x → wr.cell? ⟨g, 0 + j, none⟩ = some (.string x) := by
        intro j x hjx
        have := HO.out.cells (g := g) rfl j (.string x) (by rw [List.take_of_length_le (by simp [octL]), List.getElem?_map, hjx]; rfl)
        rw [show (⟨g, 0, none⟩ : Addr).add j = ⟨g, 0 + j, none⟩ from by unfold Addr.add; split <;> simp_all] at this
        exact this
      have HC := Lib.hid hcells
      clear hcells
      go_wp2_with fail
      refine (Tryz.strings_Join g 0 cap (octL a) ⟨#[46]⟩ _ HC.out hlt (by simp [octL]) hcap (Nat.le_trans (join_len a) (by decide))).mono ?_
      rintro e w1 ⟨rfl, hb1⟩
      have HB1 := Lib.hid (bstep HB.out hb1 HB.out.size)
      clear hb1
      go_wp2
      go_ret
      exact ⟨rfl, HB1.out⟩
end Go.Proofs.YtnmbbnhgoedjgaaGreatDoor.Ad3

