/- castellanref3.Num, Dec and Split. -/
import Derived.Test.YtefhoecdoemgbaaGreatDoorSt1
import Derived.OwnWalk
import Derived.LoopTactic
import Derived.Deep.AppendLies
import Derived.Lib.SmallJoins
import Derived.Test.YtefhoecdoemgbaaGreatDoorAd3
namespace Go.Proofs.YtefhoecdoemgbaaGreatDoor.St5
open Go Go.RowKit Go.Proofs.YtefhoecdoemgbaaGreatDoor.Ad0 Go.Proofs.YtefhoecdoemgbaaGreatDoor.Ad1 Go.Proofs.YtefhoecdoemgbaaGreatDoor.St0 Go.Proofs.YtefhoecdoemgbaaGreatDoor.St1
set_option linter.unusedVariables false
set_option linter.unusedSimpArgs false

/-- (it, whether it is at most so much), or (0, false). -/
def numV (l : List UInt8) (most : Int) : Value := if okNum 9 l then .tuple #[.int .i64 (dv l : Nat), .bool (decide ((dv l : Int) ≤ most))] else .tuple #[.int .i64 0, .bool false]

theorem at_list (s : ByteArray) (j : Nat) (hj : j < s.size) : s.data.toList[j]? = some s[j] := by
  rw [Array.getElem?_toList]
  exact Array.getElem?_eq_getElem hj
theorem take_step (s : ByteArray) (j : Nat) (hj : j < s.size) : s.data.toList.take (j + 1) = s.data.toList.take j ++ [s[j]] := by
  have h := at_list s j hj
  have hl : j < s.data.toList.length := by rw [← size_data]; exact hj
  rw [List.take_succ_eq_append_getElem hl]
  congr 2
theorem dvF_snoc (l : List UInt8) (b : UInt8) : ∀ n, dvF n (l ++ [b]) = 10 * dvF n l + (b.toNat - 48) := by
  induction l with
  | nil => intro n; rfl
  | cons x l ih => intro n; exact ih _
theorem dv_step (s : ByteArray) (j : Nat) (hj : j < s.size) : dv (s.data.toList.take (j + 1)) = 10 * dv (s.data.toList.take j) + (s[j].toNat - 48) := by
  rw [take_step s j hj]
  exact dvF_snoc _ _ _
theorem dig_step (s : ByteArray) (j : Nat) (hj : j < s.size) (h : (s.data.toList.take j).all isDig = true) (hb : isDig s[j] = true) : (s.data.toList.take (j + 1)).all isDig = true := by
  rw [take_step s j hj]
  simp only [List.all_append, h, Bool.true_and, List.all_cons, List.all_nil, Bool.and_true]
  exact hb
theorem dig_bad (s : ByteArray) (j : Nat) (hj : j < s.size) (hb : isDig s[j] = false) : okNum 9 s.data.toList = false := by
  have hall : s.data.toList.all isDig = false := by
    rw [Bool.eq_false_iff]
    intro h
    have := List.all_eq_true.1 h s[j] (List.mem_of_getElem? (at_list s j hj))
    rw [hb] at this; cases this
  unfold okNum
  rw [hall]; simp
theorem dv_take_lt (l : List UInt8) (j : Nat) (hj : j ≤ 9) (h : (l.take j).all isDig = true) : dv (l.take j) < 1000000000 := by
  have h1 := dvF_lt (l.take j) 0 h
  have h2 : 10 ^ (l.take j).length ≤ 10 ^ 9 := Nat.pow_le_pow_right (by decide) (by simp; omega)
  unfold dv
  omega

set_option maxHeartbeats 1000000 in
theorem num_any (s : ByteArray) (hs : s.size ≤ 9223372036854775807) (most : Int) (w : World) :
    Calls Tryz.prog 66 #[.string s, .int .i64 most] w fun e w' => e = .returned (numV s.data.toList most) ∧ w' = w := by
  by_cases h0 : s.size < 1
  · have hb : okNum 9 s.data.toList = false := by
      have : s.data.toList = [] := List.eq_nil_of_length_eq_zero (by rw [← size_data]; omega)
      rw [this]; rfl
    have h0' : (s.size : Int) < 1 := by omega
    unfold numV
    rw [hb]
    go_enter Tryz.func66, Tryz.ntmps66
    go_wp2_with fail
    go_ret2
    exact ⟨rfl, rfl⟩
  · by_cases h9 : 9 < s.size
    · have hb : okNum 9 s.data.toList = false := by
        have : decide (s.data.toList.length ≤ 9) = false := by rw [← size_data]; simpa using h9
        unfold okNum
        rw [this]; simp
      have h0' : ¬ (s.size : Int) < 1 := by omega
      have h9' : (9 : Int) < s.size := by omega
      unfold numV
      rw [hb]
      go_enter Tryz.func66, Tryz.ntmps66
      go_wp2_with fail
      go_ret2
      exact ⟨rfl, rfl⟩
    · have hlt : 0 < s.size := by omega
      have h0' : ¬ (s.size : Int) < 1 := by omega
      have h9' : ¬ (9 : Int) < s.size := by omega
      have hz := at_list s 0 hlt
      by_cases h4 : s[0].toNat = 48 ∧ 1 < s.size
      · obtain ⟨h5, h6⟩ := h4
        have hb : okNum 9 s.data.toList = false := by
          have e1 : (s.data.toList.head? == some 48) = true := by
            rw [List.head?_eq_getElem?, hz, beq_iff_eq]
            congr 1
            rw [← UInt8.toNat_inj, h5]; rfl
          have e2 : decide (1 < s.data.toList.length) = true := by rw [← size_data]; simpa using h6
          unfold okNum
          rw [e1, e2]; simp
        have h7 : (((s[0].toNat : Nat) : Int) == 48) = true := by rw [beq_iff_eq]; omega
        have h8 : (1 : Int) < s.size := by omega
        unfold numV
        rw [hb]
        clear hz
        go_enter Tryz.func66, Tryz.ntmps66
        go_wp2_with fail
        go_ret2
        exact ⟨rfl, rfl⟩
      · have hlen : ∀ b, isDig b = true → okNum 9 s.data.toList = s.data.toList.all isDig := by
          intro _ _
          have e1 : s.data.toList.isEmpty = false := by
            rw [List.isEmpty_eq_false_iff]
            intro e
            rw [e] at hz; cases hz
          have e2 : decide (s.data.toList.length ≤ 9) = true := by rw [← size_data, decide_eq_true_eq]; omega
          have e3 : ((s.data.toList.head? == some 48) && decide (1 < s.data.toList.length)) = false := by
            rw [Bool.and_eq_false_iff]
            by_cases h6 : 1 < s.size
            · left
              rw [List.head?_eq_getElem?, hz, beq_eq_false_iff_ne]
              intro hx
              exact h4 ⟨by rw [Option.some.inj hx]; rfl, h6⟩
            · right
              rw [← size_data]; simpa using h6
          unfold okNum
          rw [e1, e2, e3]; simp
        have hok := hlen 48 rfl
        clear hlen hz
        have HOK := Lib.hid hok
        clear hok
        have hcase : ((((s[0].toNat : Nat) : Int) == 48) = true ∧ ¬ (1 : Int) < s.size) ∨ ((((s[0].toNat : Nat) : Int) == 48) = false ∧ ¬ (1 : Int) < s.size) ∨ ((((s[0].toNat : Nat) : Int) == 48) = false ∧ (1 : Int) < s.size) := by
          by_cases h5 : s[0].toNat = 48
          · left
            exact ⟨by rw [beq_iff_eq]; omega, fun h6 => h4 ⟨h5, by omega⟩⟩
          · right
            rw [beq_eq_false_iff_ne]; omega
        rcases hcase with ⟨h7, h8⟩ | ⟨h7, h8⟩ | ⟨h7, h8⟩
        all_goals
          clear h4
          go_enter Tryz.func66, Tryz.ntmps66
          go_wp2_with fail
          go_loopw [6, 7] (fun n i wr => ∃ j : Nat, j ≤ s.size ∧ i = .int .i64 j ∧ n = .int .i64 (dv (s.data.toList.take j) : Nat) ∧ (s.data.toList.take j).all isDig = true ∧ wr = w) (fun _ i _ => (s.size - intOf i).toNat)
          case atStart => exact ⟨0, by omega, rfl, rfl, rfl, rfl⟩
          case round =>
            obtain ⟨j, hj, rfl, rfl, hd, rfl⟩ := hrel
            have hv := dv_take_lt s.data.toList j (by omega) hd
            by_cases hjs : j < s.size
            · have hjs' : (j : Int) < s.size := by omega
              cases hb : isDig s[j] with
              | true =>
                have hst := Lib.hid (dv_step s j hjs)
                have hds := Lib.hid (dig_step s j hjs hd hb)
                have hbb : 48 ≤ s[j].toNat ∧ s[j].toNat ≤ 57 := by unfold isDig at hb; simpa using hb
                obtain ⟨b0, b1⟩ := hbb
                have b0' : ¬ (s[j].toNat : Int) < 48 := by omega
                have b1' : ¬ (57 : Int) < (s[j].toNat : Int) := by omega
                go_wp2_with fail
                go_roundw
                case rel => exact ⟨j + 1, by omega, by simp, by rw [hst.out]; congr 1; omega, hds.out, trivial⟩
                case measure => simp only [intOf]; omega
              | false =>
                have hbad := Lib.hid (dig_bad s j hjs hb)
                have hbb : ¬ (48 ≤ s[j].toNat ∧ s[j].toNat ≤ 57) := by unfold isDig at hb; simpa using hb
                have hr : numV s.data.toList most = .tuple #[.int .i64 0, .bool false] := by unfold numV; rw [hbad.out]; rfl
                have HR := Lib.hid hr
                clear hr hb
                rcases (by omega : (s[j].toNat : Int) < 48 ∨ 57 < (s[j].toNat : Int)) with b0 | b0
                · clear hbb
                  go_wp2_with fail
                  go_ret2
                  exact ⟨congrArg Ending.returned HR.out.symm, rfl⟩
                · have b1 : ¬ (s[j].toNat : Int) < 48 := by omega
                  clear hbb
                  go_wp2_with fail
                  go_ret2
                  exact ⟨congrArg Ending.returned HR.out.symm, rfl⟩
            · obtain rfl : j = s.size := by omega
              have hl : s.data.toList.take s.size = s.data.toList := List.take_of_length_le (by rw [← size_data]; exact Nat.le_refl _)
              rw [hl] at hd hv ⊢
              have hr : numV s.data.toList most = .tuple #[.int .i64 (dv s.data.toList : Nat), .bool (decide ((dv s.data.toList : Int) ≤ most))] := by unfold numV; rw [HOK.out, hd]; rfl
              have HR := Lib.hid hr
              clear hr hl hd
              go_wp2_with fail
              go_ret2
              exact ⟨congrArg Ending.returned HR.out.symm, rfl⟩

end Go.Proofs.YtefhoecdoemgbaaGreatDoor.St5
/- castellanref3.Dec. -/
namespace Go.Proofs.YtefhoecdoemgbaaGreatDoor.St6
open Go Go.RowKit Go.Proofs.YtefhoecdoemgbaaGreatDoor.Ad0 Go.Proofs.YtefhoecdoemgbaaGreatDoor.Ad1 Go.Proofs.YtefhoecdoemgbaaGreatDoor.St0 Go.Proofs.YtefhoecdoemgbaaGreatDoor.St1
set_option linter.unusedVariables false
set_option linter.unusedSimpArgs false

theorem dec_small (n : Nat) (h10 : n < 10) (w : World) :
    Calls Tryz.prog 20 #[.int .i64 n] w fun e w' => e = .returned (.string ⟨(Lib.decDigits n).toArray⟩) ∧ Below w.heap.size w w' := by
  have hc := run_convert_bytes_back (P := Tryz.prog) (w.alloc (.cells #[.int .u8 (48 + (n : Int))] 5)) 75 9 5 ⟨w.heap.size, 0, none⟩ 1 [UInt8.ofNat (48 + n)] Tryz.underlying75 Tryz.underlying5 Tryz.underlying9 (fun j hj => by
    have : j = 0 := by simpa using hj
    subst this
    refine (cell_of_row _ _ 0 _ _ _ (heap_alloc_new w _)).trans ?_
    have e : (UInt8.ofNat (48 + n)).toNat = 48 + n := by simp; omega
    simp only [List.getElem_cons_zero, e]
    rfl)
  rw [Lib.decDigits_one h10]
  have h0 : (0 : Int) ≤ n := by omega
  have h9 : (n : Int) < 10 := by omega
  simp only [List.length_cons, List.length_nil] at hc
  generalize ([UInt8.ofNat (48 + n)].toArray) = y at hc ⊢
  clear h10
  generalize (n : Int) = m at hc h0 h9 ⊢
  go_enter Tryz.func20, Tryz.ntmps20
  go_wp2_with fail
  go_ret
  exact ⟨rfl, bnew _ _⟩
theorem dec_bound (n : Nat) : (Lib.decDigits n).length ≤ n + 1 := by
  induction n using Nat.strongRecOn with
  | _ n ih =>
    rw [Lib.decDigits]
    split
    · simp
    · have := ih (n / 10) (by omega)
      simp only [List.length_append, List.length_cons, List.length_nil]
      omega
theorem dec_any (n : Nat) : ∀ (hn : n ≤ 9223372036854775807) (w : World),
    Calls Tryz.prog 20 #[.int .i64 n] w fun e w' => e = .returned (.string ⟨(Lib.decDigits n).toArray⟩) ∧ Below w.heap.size w w' := by
  induction n using Nat.strongRecOn with
  | _ n ih =>
    intro hn w
    by_cases h10 : n < 10
    · exact dec_small n h10 w
    · have h9 : ¬ (n : Int) < 10 := by omega
      have h0 : (0 : Int) ≤ n := by omega
      have hm : (n : Int) ≤ 9223372036854775807 := by omega
      have e1 : ((n / 10 : Nat) : Int) = (n : Int) / 10 := by omega
      have e2 : ((n % 10 : Nat) : Int) = (n : Int) % 10 := by omega
      have e3 : Lib.decDigits n = Lib.decDigits (n / 10) ++ Lib.decDigits (n % 10) := by
        rw [Lib.decDigits, dif_neg h10, Lib.decDigits_one (show n % 10 < 10 by omega)]
      have b1 := dec_bound (n / 10)
      have b2 := dec_bound (n % 10)
      have h1 := fun w => ih (n / 10) (by omega) (by omega) w
      have h2 := fun w => ih (n % 10) (by omega) (by omega) w
      rw [e1] at h1
      rw [e2] at h2
      rw [e3]
      have z1 : (⟨(Lib.decDigits (n / 10)).toArray⟩ : ByteArray).size = (Lib.decDigits (n / 10)).length := by rw [size_data]
      have z2 : (⟨(Lib.decDigits (n % 10)).toArray⟩ : ByteArray).size = (Lib.decDigits (n % 10)).length := by rw [size_data]
      have e4 : (⟨(Lib.decDigits (n / 10)).toArray⟩ : ByteArray) ++ ⟨(Lib.decDigits (n % 10)).toArray⟩ = ⟨(Lib.decDigits (n / 10) ++ Lib.decDigits (n % 10)).toArray⟩ := by
        apply ByteArray.ext
        simp [ByteArray.data_append]
      rw [← e4]
      generalize (⟨(Lib.decDigits (n / 10)).toArray⟩ : ByteArray) = s1 at h1 z1 ⊢
      generalize (⟨(Lib.decDigits (n % 10)).toArray⟩ : ByteArray) = s2 at h2 z2 ⊢
      have hadd := fun W => run_string_add_sum (P := Tryz.prog) W s1 s2 (by omega)
      have hno : ¬ (9223372036854775807 < s1.size + s2.size) := by omega
      generalize s1 ++ s2 = s3 at hadd ⊢
      clear ih b1 b2 z1 z2 e1 e2 e3 e4 hn h10
      have H1 := Lib.hid h1
      have H2 := Lib.hid h2
      clear h1 h2
      generalize (n : Int) = m at h0 h9 hm H1 H2 ⊢
      go_enter Tryz.func20, Tryz.ntmps20
      go_wp2_with (first
        | (go_at_call 20; (with_reducible refine (H1.out _).mono ?_); rintro e w1 ⟨rfl, hb1⟩)
        | (go_at_call 20; (with_reducible refine (H2.out _).mono ?_); rintro e w2 ⟨rfl, hb2⟩))
      go_ret
      exact ⟨rfl, bstep hb1 hb2 hb1.size⟩
end Go.Proofs.YtefhoecdoemgbaaGreatDoor.St6
/- castellanref3.Split. -/
namespace Go.Proofs.YtefhoecdoemgbaaGreatDoor.St7
open Go Go.RowKit Go.Proofs.YtefhoecdoemgbaaGreatDoor.Ad0 Go.Proofs.YtefhoecdoemgbaaGreatDoor.Ad1 Go.Proofs.YtefhoecdoemgbaaGreatDoor.Ad3 Go.Proofs.YtefhoecdoemgbaaGreatDoor.St0 Go.Proofs.YtefhoecdoemgbaaGreatDoor.St1 Go.Proofs.YtefhoecdoemgbaaGreatDoor.St5 Go.Proofs.YtefhoecdoemgbaaGreatDoor.B1
set_option linter.unusedVariables false
set_option linter.unusedSimpArgs false

theorem take_all (l : List UInt8) : l.take l.length = l := List.take_length
/-- What is behind the last byte c so far, one byte on. -/
theorem part_on (s : ByteArray) (c : UInt8) (j f : Nat) (xs : List ByteArray) (hj : j < s.size) (hf : f ≤ j) (hc : s[j] ≠ c)
    (h : parts c (s.data.toList.take j) = xs.map (·.data.toList) ++ [(s.extract f j).data.toList]) :
    parts c (s.data.toList.take (j + 1)) = xs.map (·.data.toList) ++ [(s.extract f (j + 1)).data.toList] := by
  rw [take_step s j hj, parts_snoc_b c _ hc _ _ _ h]
  congr 2
  have := take_step s j hj
  simp only [ByteArray.data_extract, Array.toList_extract, List.extract_eq_take_drop]
  have hl : f ≤ (s.data.toList.take j).length := by rw [List.length_take, ← size_data]; omega
  rw [← List.drop_take, ← List.drop_take, this, List.drop_append_of_le_length hl]
theorem part_cut (s : ByteArray) (c : UInt8) (j f : Nat) (xs : List ByteArray) (hj : j < s.size) (hf : f ≤ j) (hc : s[j] = c)
    (h : parts c (s.data.toList.take j) = xs.map (·.data.toList) ++ [(s.extract f j).data.toList]) :
    parts c (s.data.toList.take (j + 1)) = (xs ++ [s.extract f j]).map (·.data.toList) ++ [(s.extract (j + 1) (j + 1)).data.toList] := by
  rw [take_step s j hj, hc, parts_snoc_c, h, List.map_append]
  congr 2
  simp

set_option maxHeartbeats 1000000 in
theorem split_any (s : ByteArray) (c : UInt8) (hs : s.size ≤ 4294967295) (w : World) :
    Calls Tryz.prog 36 #[.string s, .int .u8 c.toNat] w fun e w' => ∃ (v : Value) (xs : List ByteArray), e = .returned v ∧ xs.map (·.data.toList) = parts c s.data.toList ∧ (∀ x ∈ xs, x.size ≤ s.size) ∧
      w'.ownsRow w.heap.size 9 1 v xs.length (xs.map Value.string) ∧ Below w.heap.size w w' := by
  obtain ⟨i0, hi, hz0, hz1, hz2⟩ := info_parts info9
  go_enter Tryz.func36, Tryz.ntmps36
  go_wp2_with fail
  go_loopw [5, 6, 7] (fun v f i wr => ∃ (j k : Nat) (xs : List ByteArray), i = .int .i64 j ∧ f = .int .i64 k ∧ (∀ x ∈ xs, x.size ≤ s.size) ∧ wr.ownsRow w.heap.size 9 1 v xs.length (xs.map Value.string) ∧ Below w.heap.size w wr ∧
     ((j ≤ s.size ∧ k ≤ j ∧ xs.length ≤ j ∧ parts c (s.data.toList.take j) = xs.map (·.data.toList) ++ [(s.extract k j).data.toList]) ∨ (j = s.size + 1 ∧ xs.map (·.data.toList) = parts c s.data.toList))) (fun _ _ i _ => (s.size + 1 - intOf i).toNat)
  case atStart => exact ⟨0, 0, [], rfl, rfl, by simp, World.ownsRow_nil _ _ _ _, Below.refl _ _, .inl ⟨by omega, by omega, by simp, by simp [parts]⟩⟩
  case round =>
    obtain ⟨j, k, xs, rfl, rfl, hx, hown, hbl, hst⟩ := hrel
    have HO := Lib.hid hown
    have HB := Lib.hid hbl
    have HX := Lib.hid hx
    clear hown hbl hx
    rcases hst with ⟨h1, h2, h3, h4⟩ | ⟨hj1, h4⟩
    · have hlen : xs.length ≤ 4294967295 := by omega
      by_cases hjs : j < s.size
      · by_cases hc : s[j] = c
        · have hb1 : (((s[j].toNat : Nat) : Int) == (c.toNat : Nat)) = true := by rw [hc]; simp
          have hp := part_cut s c j k xs hjs h2 hc h4
          have HP := Lib.hid hp
          have hn : ((j : Int) == (s.size : Nat)) = false := by rw [beq_eq_false_iff_ne]; omega
          clear h4 hc hp
          have hk' : (k : Int) ≤ j := by omega
          have hj' : (j : Int) < s.size := by omega
          go_wp2_with (at_builtin; refine wpList_append_one rfl _ _ 43 rfl w.heap.size 9 (.string ByteArray.empty) 16 Tryz.underlying43 info9 rfl _ _ _ rfl HO.out (.string (s.extract k j)) rfl rfl (by simp [maxLen]; omega) (by omega) HB.out.size ?_; intro v' w' ho hb hz hn; have HO2 := Lib.hid ho; have HB2 := Lib.hid (HB.out.trans hb); clear ho hb hz hn)
          go_roundw
          case rel => exact ⟨j + 1, j + 1, xs ++ [s.extract k j], by simp, by simp, by
            intro x hx
            rcases List.mem_append.1 hx with hx | hx
            · exact HX.out x hx
            · have : x = s.extract k j := by simpa using hx
              rw [this, ByteArray.size_extract]; omega, by simpa using HO2.out, HB2.out, .inl ⟨by omega, by omega, by simp; omega, HP.out⟩⟩
          case measure => simp only [intOf]; omega
        · have hb1 : (((s[j].toNat : Nat) : Int) == (c.toNat : Nat)) = false := by
            rw [beq_eq_false_iff_ne]
            intro e
            exact hc (UInt8.toNat_inj.1 (by omega))
          have hp := part_on s c j k xs hjs h2 hc h4
          have HP := Lib.hid hp
          have hn : ((j : Int) == (s.size : Nat)) = false := by rw [beq_eq_false_iff_ne]; omega
          clear h4 hc hp
          have hj' : (j : Int) < s.size := by omega
          go_wp2_with fail
          go_roundw
          case rel => exact ⟨j + 1, k, xs, by simp, rfl, HX.out, HO.out, HB.out, .inl ⟨by omega, by omega, by omega, HP.out⟩⟩
          case measure => simp only [intOf]; omega
      · obtain rfl : j = s.size := by omega
        have hp : (xs ++ [s.extract k s.size]).map (·.data.toList) = parts c s.data.toList := by
          have e : s.data.toList.take s.size = s.data.toList := List.take_of_length_le (by rw [← size_data]; exact Nat.le_refl _)
          rw [e] at h4
          rw [h4]; simp
        have HP := Lib.hid hp
        clear h4 hp
        have hk' : (k : Int) ≤ s.size := by omega
        go_wp2_with (at_builtin; refine wpList_append_one rfl _ _ 43 rfl w.heap.size 9 (.string ByteArray.empty) 16 Tryz.underlying43 info9 rfl _ _ _ rfl HO.out (.string (s.extract k s.size)) rfl rfl (by simp [maxLen]; omega) (by omega) HB.out.size ?_; intro v' w' ho hb hz hn; have HO2 := Lib.hid ho; have HB2 := Lib.hid (HB.out.trans hb); clear ho hb hz hn)
        go_roundw
        case rel => exact ⟨s.size + 1, s.size + 1, xs ++ [s.extract k s.size], by simp, by simp, by
            intro x hx
            rcases List.mem_append.1 hx with hx | hx
            · exact HX.out x hx
            · have : x = s.extract k s.size := by simpa using hx
              rw [this, ByteArray.size_extract]; omega, by simpa using HO2.out, HB2.out, .inr ⟨rfl, HP.out⟩⟩
        case measure => simp only [intOf]; omega
    · have H4 := Lib.hid h4
      have hj2 : ¬ (j : Int) ≤ s.size := by omega
      clear h4 hj1
      go_wp2_with fail
      go_ret
      exact ⟨_, rfl, xs, H4.out, HX.out, HO.out, HB.out⟩
end Go.Proofs.YtefhoecdoemgbaaGreatDoor.St7
