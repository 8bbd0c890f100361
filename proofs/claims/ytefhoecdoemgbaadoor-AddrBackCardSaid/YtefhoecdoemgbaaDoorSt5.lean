/- castellanref3.Num, Dec and Split. -/
import Derived.Test.YtefhoecdoemgbaaDoorSt4
namespace Go.Proofs.YtefhoecdoemgbaaDoor.St5
open Go Go.RowKit Go.Proofs.YtefhoecdoemgbaaDoor.Ad0 Go.Proofs.YtefhoecdoemgbaaDoor.Ad1 Go.Proofs.YtefhoecdoemgbaaDoor.Ad3 Go.Proofs.YtefhoecdoemgbaaDoor.St0 Go.Proofs.YtefhoecdoemgbaaDoor.St1 Go.Proofs.YtefhoecdoemgbaaDoor.St2 Go.Proofs.YtefhoecdoemgbaaDoor.St3 Go.Proofs.YtefhoecdoemgbaaDoor.St4 Go.Proofs.YtefhoecdoemgbaaDoor.B1
set_option linter.unusedVariables false
set_option linter.unusedSimpArgs false

/-- (it, whether it is at most so much), or (0, false). -/
def numV (l : List UInt8) (most : Int) : Value := if okNum 9 l then .tuple #[.int .i64 (dv l : Nat), .bool (decide ((dv l : Int) ≤ most))] else .tuple #[.int .i64 0, .bool false]

theorem at_list (s : ByteArray) (j : Nat) (hj : j < s.size) : s.data.toList[j]? = some s[j] := by
  rw [Array.getElem?_toList]
  exact Array.getElem?_eq_getElem hj
theorem take_step (s : ByteArray) (j : Nat) (hj : j < s.size) : s.data.toList.take (j + 1) = s.data.toList.take j ++ [s[j]] := by
  have h := at_list s j hj
  have hl : j < s.data.toList.length := by rw [← size_data]; exact hj
  rw [List.take_succ_eq_append_getElem hl]
  congr 2
theorem dvF_snoc (l : List UInt8) (b : UInt8) : ∀ n, dvF n (l ++ [b]) = 10 * dvF n l + (b.toNat - 48) := by
  induction l with
  | nil => intro n; rfl
  | cons x l ih => intro n; exact ih _
theorem dv_step (s : ByteArray) (j : Nat) (hj : j < s.size) : dv (s.data.toList.take (j + 1)) = 10 * dv (s.data.toList.take j) + (s[j].toNat - 48) := by
  rw [take_step s j hj]
  exact dvF_snoc _ _ _
theorem dig_step (s : ByteArray) (j : Nat) (hj : j < s.size) (h : (s.data.toList.take j).all isDig = true) (hb : isDig s[j] = true) : (s.data.toList.take (j + 1)).all isDig = true := by
  rw [take_step s j hj]
  simp only [List.all_append, h, Bool.true_and, List.all_cons, List.all_nil, Bool.and_true]
  exact hb
theorem dig_bad (s : ByteArray) (j : Nat) (hj : j < s.size) (hb : isDig s[j] = false) : okNum 9 s.data.toList = false := by
  have hall : s.data.toList.all isDig = false := by
    rw [Bool.eq_false_iff]
    intro h
    have := List.all_eq_true.1 h s[j] (List.mem_of_getElem? (at_list s j hj))
    rw [hb] at this; cases this
  unfold okNum
  rw [hall]; simp
theorem dv_take_lt (l : List UInt8) (j : Nat) (hj : j ≤ 9) (h : (l.take j).all isDig = true) : dv (l.take j) < 1000000000 := by
  have h1 := dvF_lt (l.take j) 0 h
  have h2 : 10 ^ (l.take j).length ≤ 10 ^ 9 := Nat.pow_le_pow_right (by decide) (by simp; omega)
  unfold dv
  omega

set_option maxHeartbeats 1000000 in
theorem num_any (s : ByteArray) (hs : s.size ≤ 9223372036854775807) (most : Int) (w : World) :
    Calls Tryd.prog 17 #[.string s, .int .i64 most] w fun e w' => e = .returned (numV s.data.toList most) ∧ w' = w := by
  by_cases h0 : s.size < 1
  · have hb : okNum 9 s.data.toList = false := by
      have : s.data.toList = [] := List.eq_nil_of_length_eq_zero (by rw [← size_data]; omega)
      rw [this]; rfl
    have h0' : (s.size : Int) < 1 := by omega
    unfold numV
    rw [hb]
    go_enter Tryd.func17, Tryd.ntmps17
    go_wp2_with fail
    go_ret2
    exact ⟨rfl, rfl⟩
  · by_cases h9 : 9 < s.size
    · have hb : okNum 9 s.data.toList = false := by
        have : decide (s.data.toList.length ≤ 9) = false := by rw [← size_data]; simpa using h9
        unfold okNum
        rw [this]; simp
      have h0' : ¬ (s.size : Int) < 1 := by omega
      have h9' : (9 : Int) < s.size := by omega
      unfold numV
      rw [hb]
      go_enter Tryd.func17, Tryd.ntmps17
      go_wp2_with fail
      go_ret2
      exact ⟨rfl, rfl⟩
    · have hlt : 0 < s.size := by omega
      have h0' : ¬ (s.size : Int) < 1 := by omega
      have h9' : ¬ (9 : Int) < s.size := by omega
      have hz := at_list s 0 hlt
      by_cases h4 : s[0].toNat = 48 ∧ 1 < s.size
      · obtain ⟨h5, h6⟩ := h4
        have hb : okNum 9 s.data.toList = false := by
          have e1 : (s.data.toList.head? == some 48) = true := by
            rw [List.head?_eq_getElem?, hz, beq_iff_eq]
            congr 1
            rw [← UInt8.toNat_inj, h5]; rfl
          have e2 : decide (1 < s.data.toList.length) = true := by rw [← size_data]; simpa using h6
          unfold okNum
          rw [e1, e2]; simp
        have h7 : (((s[0].toNat : Nat) : Int) == 48) = true := by rw [beq_iff_eq]; omega
        have h8 : (1 : Int) < s.size := by omega
        unfold numV
        rw [hb]
        clear hz
        go_enter Tryd.func17, Tryd.ntmps17
        go_wp2_with fail
        go_ret2
        exact ⟨rfl, rfl⟩
      · have hlen : ∀ b, isDig b = true → okNum 9 s.data.toList = s.data.toList.all isDig := by
          intro _ _
          have e1 : s.data.toList.isEmpty = false := by
            rw [List.isEmpty_eq_false_iff]
            intro e
            rw [e] at hz; cases hz
          have e2 : decide (s.data.toList.length ≤ 9) = true := by rw [← size_data, decide_eq_true_eq]; omega
          have e3 : ((s.data.toList.head? == some 48) && decide (1 < s.data.toList.length)) = false := by
            rw [Bool.and_eq_false_iff]
            by_cases h6 : 1 < s.size
            · left
              rw [List.head?_eq_getElem?, hz, beq_eq_false_iff_ne]
              intro hx
              exact h4 ⟨by rw [Option.some.inj hx]; rfl, h6⟩
            · right
              rw [← size_data]; simpa using h6
          unfold okNum
          rw [e1, e2, e3]; simp
        have hok := hlen 48 rfl
        clear hlen hz
        have HOK := Lib.hid hok
        clear hok
        have hcase : ((((s[0].toNat : Nat) : Int) == 48) = true ∧ ¬ (1 : Int) < s.size) ∨ ((((s[0].toNat : Nat) : Int) == 48) = false ∧ ¬ (1 : Int) < s.size) ∨ ((((s[0].toNat : Nat) : Int) == 48) = false ∧ (1 : Int) < s.size) := by
          by_cases h5 : s[0].toNat = 48
          · left
            exact ⟨by rw [beq_iff_eq]; omega, fun h6 => h4 ⟨h5, by omega⟩⟩
          · right
            rw [beq_eq_false_iff_ne]; omega
        rcases hcase with ⟨h7, h8⟩ | ⟨h7, h8⟩ | ⟨h7, h8⟩
        all_goals
          clear h4
          go_enter Tryd.func17, Tryd.ntmps17
          go_wp2_with fail
          go_loopw [6, 7] (fun n i wr => ∃ j : Nat, j ≤ s.size ∧ i = .int .i64 j ∧ n = .int .i64 (dv (s.data.toList.take j) : Nat) ∧ (s.data.toList.take j).all isDig = true ∧ wr = w) (fun _ i _ => (s.size - intOf i).toNat)
          case atStart => exact ⟨0, by omega, rfl, rfl, rfl, rfl⟩
          case round =>
            obtain ⟨j, hj, rfl, rfl, hd, rfl⟩ := hrel
            have hv := dv_take_lt s.data.toList j (by omega) hd
            by_cases hjs : j < s.size
            · have hjs' : (j : Int) < s.size := by omega
              cases hb : isDig s[j] with
              | true =>
                have hst := Lib.hid (dv_step s j hjs)
                have hds := Lib.hid (dig_step s j hjs hd hb)
                have hbb : 48 ≤ s[j].toNat ∧ s[j].toNat ≤ 57 := by unfold isDig at hb; simpa using hb
                obtain ⟨b0, b1⟩ := hbb
                have b0' : ¬ (s[j].toNat : Int) < 48 := by omega
                have b1' : ¬ (57 : Int) < (s[j].toNat : Int) := by omega
                go_wp2_with fail
                go_roundw
                case rel => exact ⟨j + 1, by omega, by simp, by rw [hst.out]; congr 1; omega, hds.out, trivial⟩
                case measure => simp only [intOf]; omega
              | false =>
                have hbad := Lib.hid (dig_bad s j hjs hb)
                have hbb : ¬ (48 ≤ s[j].toNat ∧ s[j].toNat ≤ 57) := by unfold isDig at hb; simpa using hb
                have hr : numV s.data.toList most = .tuple #[.int .i64 0, .bool false] := by unfold numV; rw [hbad.out]; rfl
                have HR := Lib.hid hr
                clear hr hb
                rcases (by omega : (s[j].toNat : Int) < 48 ∨ 57 < (s[j].toNat : Int)) with b0 | b0
                · clear hbb
                  go_wp2_with fail
                  go_ret2
                  exact ⟨congrArg Ending.returned HR.out.symm, rfl⟩
                · have b1 : ¬ (s[j].toNat : Int) < 48 := by omega
                  clear hbb
                  go_wp2_with fail
                  go_ret2
                  exact ⟨congrArg Ending.returned HR.out.symm, rfl⟩
            · obtain rfl : j = s.size := by omega
              have hl : s.data.toList.take s.size = s.data.toList := List.take_of_length_le (by rw [← size_data]; exact Nat.le_refl _)
              rw [hl] at hd hv ⊢
              have hr : numV s.data.toList most = .tuple #[.int .i64 (dv s.data.toList : Nat), .bool (decide ((dv s.data.toList : Int) ≤ most))] := by unfold numV; rw [HOK.out, hd]; rfl
              have HR := Lib.hid hr
              clear hr hl hd
              go_wp2_with fail
              go_ret2
              exact ⟨congrArg Ending.returned HR.out.symm, rfl⟩

end Go.Proofs.YtefhoecdoemgbaaDoor.St5
