/- castellanref3.Split. -/
import Derived.Test.YtefhoecdoemgbaaDoorSt6
namespace Go.Proofs.YtefhoecdoemgbaaDoor.St7
open Go Go.RowKit Go.Proofs.YtefhoecdoemgbaaDoor.Ad0 Go.Proofs.YtefhoecdoemgbaaDoor.Ad1 Go.Proofs.YtefhoecdoemgbaaDoor.Ad3 Go.Proofs.YtefhoecdoemgbaaDoor.St0 Go.Proofs.YtefhoecdoemgbaaDoor.St1 Go.Proofs.YtefhoecdoemgbaaDoor.St2 Go.Proofs.YtefhoecdoemgbaaDoor.St3 Go.Proofs.YtefhoecdoemgbaaDoor.St4 Go.Proofs.YtefhoecdoemgbaaDoor.St5 Go.Proofs.YtefhoecdoemgbaaDoor.B1
set_option linter.unusedVariables false
set_option linter.unusedSimpArgs false

theorem take_all (l : List UInt8) : l.take l.length = l := List.take_length
/-- What is behind the last byte c so far, one byte on. -/
theorem part_on (s : ByteArray) (c : UInt8) (j f : Nat) (xs : List ByteArray) (hj : j < s.size) (hf : f ≤ j) (hc : s[j] ≠ c)
    (h : parts c (s.data.toList.take j) = xs.map (·.data.toList) ++ [(s.extract f j).data.toList]) :
    parts c (s.data.toList.take (j + 1)) = xs.map (·.data.toList) ++ [(s.extract f (j + 1)).data.toList] := by
  rw [take_step s j hj, parts_snoc_b c _ hc _ _ _ h]
  congr 2
  have := take_step s j hj
  simp only [ByteArray.data_extract, Array.toList_extract, List.extract_eq_take_drop]
  have hl : f ≤ (s.data.toList.take j).length := by rw [List.length_take, ← size_data]; omega
  rw [← List.drop_take, ← List.drop_take, this, List.drop_append_of_le_length hl]
theorem part_cut (s : ByteArray) (c : UInt8) (j f : Nat) (xs : List ByteArray) (hj : j < s.size) (hf : f ≤ j) (hc : s[j] = c)
    (h : parts c (s.data.toList.take j) = xs.map (·.data.toList) ++ [(s.extract f j).data.toList]) :
    parts c (s.data.toList.take (j + 1)) = (xs ++ [s.extract f j]).map (·.data.toList) ++ [(s.extract (j + 1) (j + 1)).data.toList] := by
  rw [take_step s j hj, hc, parts_snoc_c, h, List.map_append]
  congr 2
  simp

set_option maxHeartbeats 1000000 in
theorem split_any (s : ByteArray) (c : UInt8) (hs : s.size ≤ 4294967295) (w : World) :
    Calls Tryd.prog 16 #[.string s, .int .u8 c.toNat] w fun e w' => ∃ (v : Value) (xs : List ByteArray), e = .returned v ∧ xs.map (·.data.toList) = parts c s.data.toList ∧ (∀ x ∈ xs, x.size ≤ s.size) ∧
      w'.ownsRow w.heap.size 9 1 v xs.length (xs.map Value.string) ∧ Below w.heap.size w w' := by
  obtain ⟨i0, hi, hz0, hz1, hz2⟩ := info_parts info9
  go_enter Tryd.func16, Tryd.ntmps16
  go_wp2_with fail
  go_loopw [5, 6, 7] (fun v f i wr => ∃ (j k : Nat) (xs : List ByteArray), i = .int .i64 j ∧ f = .int .i64 k ∧ (∀ x ∈ xs, x.size ≤ s.size) ∧ wr.ownsRow w.heap.size 9 1 v xs.length (xs.map Value.string) ∧ Below w.heap.size w wr ∧
     ((j ≤ s.size ∧ k ≤ j ∧ xs.length ≤ j ∧ parts c (s.data.toList.take j) = xs.map (·.data.toList) ++ [(s.extract k j).data.toList]) ∨ (j = s.size + 1 ∧ xs.map (·.data.toList) = parts c s.data.toList))) (fun _ _ i _ => (s.size + 1 - intOf i).toNat)
  case atStart => exact ⟨0, 0, [], rfl, rfl, by simp, World.ownsRow_nil _ _ _ _, Below.refl _ _, .inl ⟨by omega, by omega, by simp, by simp [parts]⟩⟩
  case round =>
    obtain ⟨j, k, xs, rfl, rfl, hx, hown, hbl, hst⟩ := hrel
    have HO := Lib.hid hown
    have HB := Lib.hid hbl
    have HX := Lib.hid hx
    clear hown hbl hx
    rcases hst with ⟨h1, h2, h3, h4⟩ | ⟨hj1, h4⟩
    · have hlen : xs.length ≤ 4294967295 := by omega
      by_cases hjs : j < s.size
      · by_cases hc : s[j] = c
        · have hb1 : (((s[j].toNat : Nat) : Int) == (c.toNat : Nat)) = true := by rw [hc]; simp
          have hp := part_cut s c j k xs hjs h2 hc h4
          have HP := Lib.hid hp
          have hn : ((j : Int) == (s.size : Nat)) = false := by rw [beq_eq_false_iff_ne]; omega
          clear h4 hc hp
          have hk' : (k : Int) ≤ j := by omega
          have hj' : (j : Int) < s.size := by omega
          go_wp2_with (at_builtin; refine wpList_append_one rfl _ _ 39 rfl w.heap.size 9 (.string ByteArray.empty) 16 Tryd.underlying39 info9 rfl _ _ _ rfl HO.out (.string (s.extract k j)) rfl rfl (by simp [maxLen]; omega) (by omega) HB.out.size ?_; intro v' w' ho hb hz hn; have HO2 := Lib.hid ho; have HB2 := Lib.hid (HB.out.trans hb); clear ho hb hz hn)
          go_roundw
          case rel => exact ⟨j + 1, j + 1, xs ++ [s.extract k j], by simp, by simp, by
            intro x hx
            rcases List.mem_append.1 hx with hx | hx
            · exact HX.out x hx
            · have : x = s.extract k j := by simpa using hx
              rw [this, ByteArray.size_extract]; omega, by simpa using HO2.out, HB2.out, .inl ⟨by omega, by omega, by simp; omega, HP.out⟩⟩
          case measure => simp only [intOf]; omega
        · have hb1 : (((s[j].toNat : Nat) : Int) == (c.toNat : Nat)) = false := by
            rw [beq_eq_false_iff_ne]
            intro e
            exact hc (UInt8.toNat_inj.1 (by omega))
          have hp := part_on s c j k xs hjs h2 hc h4
          have HP := Lib.hid hp
          have hn : ((j : Int) == (s.size : Nat)) = false := by rw [beq_eq_false_iff_ne]; omega
          clear h4 hc hp
          have hj' : (j : Int) < s.size := by omega
          go_wp2_with fail
          go_roundw
          case rel => exact ⟨j + 1, k, xs, by simp, rfl, HX.out, HO.out, HB.out, .inl ⟨by omega, by omega, by omega, HP.out⟩⟩
          case measure => simp only [intOf]; omega
      · obtain rfl : j = s.size := by omega
        have hp : (xs ++ [s.extract k s.size]).map (·.data.toList) = parts c s.data.toList := by
          have e : s.data.toList.take s.size = s.data.toList := List.take_of_length_le (by rw [← size_data]; exact Nat.le_refl _)
          rw [e] at h4
          rw [h4]; simp
        have HP := Lib.hid hp
        clear h4 hp
        have hk' : (k : Int) ≤ s.size := by omega
        go_wp2_with (at_builtin; refine wpList_append_one rfl _ _ 39 rfl w.heap.size 9 (.string ByteArray.empty) 16 Tryd.underlying39 info9 rfl _ _ _ rfl HO.out (.string (s.extract k s.size)) rfl rfl (by simp [maxLen]; omega) (by omega) HB.out.size ?_; intro v' w' ho hb hz hn; have HO2 := Lib.hid ho; have HB2 := Lib.hid (HB.out.trans hb); clear ho hb hz hn)
        go_roundw
        case rel => exact ⟨s.size + 1, s.size + 1, xs ++ [s.extract k s.size], by simp, by simp, by
            intro x hx
            rcases List.mem_append.1 hx with hx | hx
            · exact HX.out x hx
            · have : x = s.extract k s.size := by simpa using hx
              rw [this, ByteArray.size_extract]; omega, by simpa using HO2.out, HB2.out, .inr ⟨rfl, HP.out⟩⟩
        case measure => simp only [intOf]; omega
    · have H4 := Lib.hid h4
      have hj2 : ¬ (j : Int) ≤ s.size := by omega
      clear h4 hj1
      go_wp2_with fail
      go_ret
      exact ⟨_, rfl, xs, H4.out, HX.out, HO.out, HB.out⟩
end Go.Proofs.YtefhoecdoemgbaaDoor.St7
