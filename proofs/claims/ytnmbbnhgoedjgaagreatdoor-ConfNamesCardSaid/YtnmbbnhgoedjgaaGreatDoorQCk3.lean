/- castellanlaw20.turned. -/
import Derived.Test.YtnmbbnhgoedjgaaGreatDoorQStA
import Derived.Test.YtnmbbnhgoedjgaaGreatDoorQRuU
import Derived.Deep.DeepCutAuto
namespace Go.Proofs.YtnmbbnhgoedjgaaGreatDoor.Ck3
open Go Go.RowKit Go.Proofs.YtnmbbnhgoedjgaaGreatDoor.St0 Go.Proofs.YtnmbbnhgoedjgaaGreatDoor.St5 Go.Proofs.YtnmbbnhgoedjgaaGreatDoor.Ru0 Go.Proofs.YtnmbbnhgoedjgaaGreatDoor.Ru5 Go.Proofs.YtnmbbnhgoedjgaaGreatDoor.Ru6 Go.Proofs.YtnmbbnhgoedjgaaGreatDoor.Cf0 Go.Proofs.YtnmbbnhgoedjgaaGreatDoor.Cf2
set_option linter.unusedVariables false
set_option linter.unusedSimpArgs false
theorem piece_len (s : ByteArray) (k j : Nat) (hk : k ≤ j) (hj : j ≤ s.size) : (s.extract k j).data.toList.length = j - k := by
  rw [Array.length_toList]
  show (s.extract k j).size = _
  rw [ByteArray.size_extract]
  omega
theorem piece_list (s : ByteArray) (k j : Nat) : (s.extract k j).data.toList = (s.data.toList.take j).drop k := by
  simp [ByteArray.data_extract, List.extract_eq_take_drop, List.drop_take]
theorem piece_snoc (s : ByteArray) (k j : Nat) (hk : k ≤ j) (hj : j < s.size) : (s.extract k (j + 1)).data.toList = (s.extract k j).data.toList ++ [s[j]] := by
  rw [piece_list, piece_list, take_step s j hj, List.drop_append_of_le_length (by rw [List.length_take, Array.length_toList]; have : s.data.size = s.size := rfl; omega)]
theorem at_nl (s : ByteArray) (k j : Nat) (X : List Wd) (hk : k ≤ j) (hj : j < s.size) (hc : s[j] = 10) (h : parts 10 (s.data.toList.take j) = X ++ [(s.extract k j).data.toList]) :
    parts 10 (s.data.toList.take (j + 1)) = (X ++ [(s.extract k j).data.toList]) ++ [(s.extract (j + 1) (j + 1)).data.toList] := by
  rw [take_step s j hj, hc, parts_snoc_c, h]
  congr 2
  simp
theorem at_on (s : ByteArray) (k j : Nat) (X : List Wd) (hk : k ≤ j) (hj : j < s.size) (hc : s[j] ≠ 10) (h : parts 10 (s.data.toList.take j) = X ++ [(s.extract k j).data.toList]) :
    parts 10 (s.data.toList.take (j + 1)) = X ++ [(s.extract k (j + 1)).data.toList] := by
  rw [take_step s j hj, parts_snoc_b 10 _ hc _ _ _ h, piece_snoc s k j hk hj]
theorem glue (s : ByteArray) (k j : Nat) (A : List Wd) (hk : k ≤ j) (hj : j < s.size) (hc : s[j] = 10) :
    (⟨(unlines A).toArray⟩ : ByteArray) ++ s.extract k (j + 1) = ⟨(unlines (A ++ [(s.extract k j).data.toList])).toArray⟩ := by
  apply ByteArray.ext
  apply Array.ext'
  rw [ByteArray.data_append, Array.toList_append, piece_snoc s k j hk hj, hc, unlines_app]
  simp [unlines]
theorem is_bogon (s : ByteArray) (k j : Nat) (hk : k + 6 < j) (hj : j ≤ s.size) : isB (s.extract k j).data.toList = ((s.extract k (k + 6)).toList == [98, 111, 103, 111, 110, 32]) := by
  have hl := piece_len s k j (by omega) hj
  have ht : (s.extract k j).data.toList.take 6 = (s.extract k (k + 6)).data.toList := by
    rw [piece_list, piece_list, List.drop_take, List.drop_take, List.take_take, show min 6 (j - k) = k + 6 - k by omega]
  have he : (s.extract k (k + 6)).toList = (s.extract k (k + 6)).data.toList := ByteArray.toList_mk _
  unfold isB
  rw [ht, hl, decide_eq_true (by omega), Bool.true_and, he]
  rfl
theorem no_bogon (s : ByteArray) (k j : Nat) (hk : k ≤ j) (h6 : ¬ k + 6 < j) (hj : j ≤ s.size) : isB (s.extract k j).data.toList = false := by
  unfold isB
  rw [piece_len s k j hk hj, decide_eq_false (by omega), Bool.false_and]
theorem filt_yes (X : List Wd) (p : Wd) (h : isB p = true) : (X ++ [p]).filter isB = X.filter isB ++ [p] ∧ (X ++ [p]).filter (fun l => !isB l) = X.filter (fun l => !isB l) := by
  simp [List.filter_append, h]
theorem filt_no (X : List Wd) (p : Wd) (h : isB p = false) : (X ++ [p]).filter isB = X.filter isB ∧ (X ++ [p]).filter (fun l => !isB l) = X.filter (fun l => !isB l) ++ [p] := by
  simp [List.filter_append, h]
theorem un_len (X : List Wd) (p : Wd) : (unlines (X ++ [p])).length = (unlines X).length + p.length + 1 := by
  rw [unlines_app, List.length_append]
  simp [unlines]
  omega
set_option maxRecDepth 20000 in
set_option maxHeartbeats 2000000 in
theorem turned_any (s : ByteArray) (hs : s.size ≤ 4294967295) (w : World) :
    Calls Tryz.prog 17 #[.string s] w fun e w' => e = .returned (.string ⟨(turnedL s.data.toList).toArray⟩) ∧ Below w.heap.size w w' := by
  go_enter Tryz.func17, Tryz.ntmps17
  go_wp2_with fail
  go_loopw [3, 4, 5, 6] (fun a b f i wr => ∃ (j k : Nat) (X : List Wd), i = .int .i64 j ∧ f = .int .i64 k ∧ a = .string ⟨(unlines (X.filter isB)).toArray⟩ ∧ b = .string ⟨(unlines (X.filter fun l => !isB l)).toArray⟩ ∧ Below w.heap.size w wr ∧
    k ≤ j ∧ j ≤ s.size ∧ (unlines X).length = k ∧ parts 10 (s.data.toList.take j) = X ++ [(s.extract k j).data.toList]) (fun _ _ _ i _ => (s.size - intOf i).toNat)
  case atStart => exact ⟨0, 0, [], rfl, rfl, rfl, rfl, Below.refl _ _, by omega, by omega, rfl, by simp [parts]⟩
  case round =>
    obtain ⟨j, k, X, rfl, rfl, rfl, rfl, hbl, hkj, hjs, hu, hp⟩ := hrel
    have HB := Lib.hid hbl
    have hsum := unlines_len X isB
    clear hbl
    by_cases hlt : j < s.size
    · have hj' : (j : Int) < s.size := by omega
      have hk63 : (j : Int) + 1 ≤ 9223372036854775807 := by omega
      by_cases hc : s[j] = 10
      · have hn : (((s[j].toNat : Nat) : Int) != 10) = false := by rw [hc]; rfl
        have HP := Lib.hid (at_nl s k j X hkj hlt hc hp)
        have HU := Lib.hid (un_len X (s.extract k j).data.toList)
        have HPL := Lib.hid (piece_len s k j hkj hjs)
        have HG1 := Lib.hid (glue s k j (X.filter isB) hkj hlt hc)
        have HG2 := Lib.hid (glue s k j (X.filter fun l => !isB l) hkj hlt hc)
        by_cases h6 : k + 6 < j
        · have hb := is_bogon s k j h6 hjs
          have g6 : (6 : Int) < (j : Int) - k := by omega
          have g7 : (k : Int) + 6 ≤ s.size := by omega
          have hk6 : (k : Int) + 6 ≤ 9223372036854775807 := by omega
          have hj6 : (j : Int) - k ≤ 9223372036854775807 := by omega
          have hj7 : -9223372036854775808 ≤ (j : Int) - k := by omega
          cases hq : ((s.extract k (k + 6)).toList == [98, 111, 103, 111, 110, 32]) with
          | true =>
            rw [hq] at hb
            have HF := Lib.hid (filt_yes X _ hb)
            clear hp hb hc h6
            go_wp2_with fail
            go_roundw
            case rel => exact ⟨j + 1, j + 1, X ++ [(s.extract k j).data.toList], by go_num, by go_num, by rw [HF.out.1, ← HG1.out], by rw [HF.out.2], HB.out, by omega, by omega, by rw [HU.out, HPL.out]; omega, HP.out⟩
            case measure => simp only [intOf]; omega
          | false =>
            rw [hq] at hb
            have HF := Lib.hid (filt_no X _ hb)
            clear hp hb hc h6
            go_wp2_with fail
            go_roundw
            case rel => exact ⟨j + 1, j + 1, X ++ [(s.extract k j).data.toList], by go_num, by go_num, by rw [HF.out.1], by rw [HF.out.2, ← HG2.out], HB.out, by omega, by omega, by rw [HU.out, HPL.out]; omega, HP.out⟩
            case measure => simp only [intOf]; omega
        · have hb := no_bogon s k j hkj h6 hjs
          have g6 : ¬ (6 : Int) < (j : Int) - k := by omega
          have HF := Lib.hid (filt_no X _ hb)
          clear hp hb hc
          go_wp2_with fail
          go_roundw
          case rel => exact ⟨j + 1, j + 1, X ++ [(s.extract k j).data.toList], by go_num, by go_num, by rw [HF.out.1], by rw [HF.out.2, ← HG2.out], HB.out, by omega, by omega, by rw [HU.out, HPL.out]; omega, HP.out⟩
          case measure => simp only [intOf]; omega
      · have hn : (((s[j].toNat : Nat) : Int) != 10) = true := by
          rw [bne_iff_ne]
          intro e
          exact hc (UInt8.toNat_inj.1 (by simpa using (by omega : s[j].toNat = 10)))
        have HP := Lib.hid (at_on s k j X hkj hlt hc hp)
        clear hp hc
        go_wp2_with fail
        go_roundw
        case rel => exact ⟨j + 1, k, X, by go_num, rfl, rfl, rfl, HB.out, by omega, by omega, hu, HP.out⟩
        case measure => simp only [intOf]; omega
    · have hge : ¬ (j : Int) < s.size := by omega
      obtain rfl : j = s.size := by omega
      have hX : (parts 10 s.data.toList).dropLast = X := by
        rw [show s.data.toList.take s.size = s.data.toList from List.take_length] at hp
        rw [hp]
        exact List.dropLast_concat
      have HR := Lib.hid (show (⟨(unlines (X.filter isB)).toArray⟩ : ByteArray) ++ ⟨(unlines (X.filter fun l => !isB l)).toArray⟩ = ⟨(turnedL s.data.toList).toArray⟩ by
        apply ByteArray.ext
        unfold turnedL
        rw [hX]
        simp [ByteArray.data_append])
      clear hp hX
      go_wp2_with fail
      go_ret
      exact ⟨by rw [← HR.out]; rfl, HB.out⟩
end Go.Proofs.YtnmbbnhgoedjgaaGreatDoor.Ck3

