/- addr.number: digits without a nought ahead as a number. -/
import Derived.Test.YtnmbbnhgoedjgaaGreatDoorQAd2
import Derived.Test.YtnmbbnhgoedjgaaGreatDoorQShelf
import Derived.Test.YtnmbbnhgoedjgaaGreatDoorQSt0
import Derived.Shelf.Strings.SlTrimAscii
namespace Go.Proofs.YtnmbbnhgoedjgaaGreatDoor.St1
open Go Go.RowKit Go.Proofs.YtnmbbnhgoedjgaaGreatDoor.Ad1 Go.Proofs.YtnmbbnhgoedjgaaGreatDoor.St0
set_option linter.unusedVariables false
set_option linter.unusedSimpArgs false
theorem toList_data (s : ByteArray) : s.toList = s.data.toList := Lib.toList_data s
theorem size_data (s : ByteArray) : s.size = s.data.toList.length := by rw [Array.length_toList]; rfl
theorem trim_any (s : ByteArray) (w : World) (hs : s.size ≤ 9223372036854775807) :
    Calls Tryz.prog 105 #[.string s, .string ⟨#[48, 49, 50, 51, 52, 53, 54, 55, 56, 57]⟩] w fun e w' => e = .returned (.string ⟨(Lib.trimS s.data.toList digits).toArray⟩) ∧ Below w.heap.size w w' := by
  have h := Any.strings_Trim_laid Tryz.lays160 (by kernel_rfl) s ⟨#[48, 49, 50, 51, 52, 53, 54, 55, 56, 57]⟩ w hs (by decide) (ascii_of_all (by decide))
  exact h
/-- What is no number: (0, false). -/
theorem number_bad (s : ByteArray) (hs : s.size ≤ 9223372036854775807) (most : Int) (w : World) (h : okNum 3 s.data.toList = false) :
    Calls Tryz.prog 146 #[.string s, .int .i64 most] w fun e w' => e = .returned (.tuple #[.int .i64 0, .bool false]) ∧ Below w.heap.size w w' := by
  have ht := trim_any s w hs
  by_cases h0 : s.data.toList = []
  · have h1 : s.toList = [] := by rw [toList_data]; exact h0
    go_enter Tryz.func146, Tryz.ntmps146
    go_wp2_with fail
    go_ret2
    exact ⟨rfl, Below.refl _ _⟩
  · have h1 : s.toList.isEmpty = false := by rw [toList_data]; simpa using h0
    by_cases h3 : (3 : Int) < s.size
    · go_enter Tryz.func146, Tryz.ntmps146
      go_wp2_with fail
      go_ret2
      exact ⟨rfl, Below.refl _ _⟩
    · have hlt : 0 < s.size := by
        rw [size_data]
        exact List.length_pos_iff.2 h0
      have hz : ∀ x : UInt8, s.data.toList.head? = some x → s[0] = x := by
        intro x hx
        have := List.head?_eq_getElem? (l := s.data.toList)
        rw [this] at hx
        have e : s.data.toList[0]? = some s[0] := by
          rw [Array.getElem?_toList]
          exact Array.getElem?_eq_getElem hlt
        rw [e] at hx
        exact Option.some.inj hx
      by_cases h4 : s[0].toNat = 48 ∧ 1 < s.size
      · obtain ⟨h5, h6⟩ := h4
        have h7 : (((s[0].toNat : Nat) : Int) == 48) = true := by rw [beq_iff_eq]; omega
        have h8 : (1 : Int) < s.size := by omega
        go_enter Tryz.func146, Tryz.ntmps146
        go_wp2_with fail
        go_ret2
        exact ⟨rfl, Below.refl _ _⟩
      · have hnd : s.data.toList.all isDig = false := by
          cases hc : s.data.toList.all isDig with
          | false => rfl
          | true =>
            exfalso
            have : okNum 3 s.data.toList = true := by
              unfold okNum
              rw [hc]
              have e1 : s.data.toList.isEmpty = false := by simpa using h0
              have e2 : s.data.toList.length ≤ 3 := by rw [← size_data]; omega
              rw [e1]
              simp only [Bool.not_false, Bool.true_and, Bool.and_true, Bool.and_eq_true, decide_eq_true_eq, Bool.not_eq_true', Bool.and_eq_false_iff]
              refine ⟨e2, ?_⟩
              by_cases h6 : 1 < s.size
              · left
                rw [beq_eq_false_iff_ne]
                intro hx
                have := hz 48 hx
                exact h4 ⟨by rw [this]; rfl, h6⟩
              · right
                rw [← size_data]
                simpa using h6
            rw [h] at this; cases this
        have htn : Lib.trimS s.data.toList digits ≠ [] := fun e => by
          rw [trim_digits] at e
          rw [hnd] at e; cases e
        generalize Lib.trimS s.data.toList digits = tr at ht htn
        have hte : tr.isEmpty = false := by simpa using htn
        have HT := Lib.hid ht
        clear ht hz hnd
        by_cases h5 : s[0].toNat = 48
        · have h6 : ¬ (1 : Int) < s.size := fun hh => h4 ⟨h5, by omega⟩
          have h7 : (((s[0].toNat : Nat) : Int) == 48) = true := by rw [beq_iff_eq]; omega
          clear h4
          go_enter Tryz.func146, Tryz.ntmps146
          go_wp2_with (go_at_call 105; refine HT.out.mono ?_; rintro e w1 ⟨rfl, hb1⟩)
          go_ret2
          exact ⟨rfl, hb1⟩
        · have h7 : (((s[0].toNat : Nat) : Int) == 48) = false := by rw [beq_eq_false_iff_ne]; omega
          clear h4
          go_enter Tryz.func146, Tryz.ntmps146
          go_wp2_with (go_at_call 105; refine HT.out.mono ?_; rintro e w1 ⟨rfl, hb1⟩)
          go_ret2
          exact ⟨rfl, hb1⟩
theorem bytes_world (w : World) (e : TypeId) (t : ByteArray) : Below w.heap.size w (Lib.bytesWorld w e t) :=
  ⟨rfl, rfl, rfl, by rw [Lib.bytesWorld_size]; omega, fun i hi => Lib.bytesWorld_at_old w e t i hi⟩
/-- A number: (it, whether it is at most so much). -/
theorem number_ok (s : ByteArray) (most : Nat) (hm : most ≤ 999) (w : World) (h : okNum 3 s.data.toList = true) :
    Calls Tryz.prog 146 #[.string s, .int .i64 most] w fun e w' => e = .returned (.tuple #[.int .i64 (dv s.data.toList : Nat), .bool (decide (dv s.data.toList ≤ most))]) ∧ Below w.heap.size w w' := by
  have h' := h
  unfold okNum at h'
  simp only [Bool.and_eq_true, decide_eq_true_eq, Bool.not_eq_true', Bool.and_eq_false_iff] at h'
  obtain ⟨⟨⟨h0, h3⟩, hz⟩, hd⟩ := h'
  have hne : s.data.toList ≠ [] := by simpa using h0
  have h1 : s.toList.isEmpty = false := by rw [toList_data]; exact h0
  have hs3 : (s.size : Int) ≤ 3 := by rw [size_data]; omega
  have hlt : 0 < s.size := by
    rw [size_data]
    exact List.length_pos_iff.2 hne
  have ht := trim_any s w (by omega)
  rw [(trim_digits _).2 hd] at ht
  have HT := Lib.hid ht
  have ha := Lib.hid (fun W => Tryz.strconv_Atoi s _ (by omega) (atoi_digs _ hd hne) W)
  have hdl : dv s.data.toList < 1000 := by
    have h1 := dvF_lt s.data.toList 0 hd
    have h2 : 10 ^ s.data.toList.length ≤ 10 ^ 3 := Nat.pow_le_pow_right (by decide) h3
    unfold dv
    omega
  have hcase : ((((s[0].toNat : Nat) : Int) == 48) = true ∧ ¬ (1 : Int) < s.size) ∨ (((s[0].toNat : Nat) : Int) == 48) = false := by
    by_cases h5 : s[0].toNat = 48
    · left
      refine ⟨by rw [beq_iff_eq]; omega, ?_⟩
      rcases hz with hz | hz
      · rw [beq_eq_false_iff_ne] at hz
        exfalso
        apply hz
        have e : s.data.toList[0]? = some s[0] := by
          rw [Array.getElem?_toList]
          exact Array.getElem?_eq_getElem hlt
        rw [List.head?_eq_getElem?, e]
        congr 1
        rw [← UInt8.toNat_inj, h5]; rfl
      · rw [← size_data] at hz
        simp at hz
        omega
    · right
      rw [beq_eq_false_iff_ne]; omega
  clear ht h3 hz hd h0 hne
  generalize dv s.data.toList = v at ha hdl
  have hnil : (⟨([] : List UInt8).toArray⟩ : ByteArray) = ⟨#[]⟩ := rfl
  rw [hnil] at HT
  have hdec : decide ((v : Int) ≤ (most : Nat)) = decide (v ≤ most) := by simp
  rcases hcase with ⟨h7, h8⟩ | h7
  all_goals
    go_enter Tryz.func146, Tryz.ntmps146
    go_wp2_with (first
      | (go_at_call 105; refine HT.out.mono ?_; rintro e w1 ⟨rfl, hb1⟩; have HB1 := Lib.hid hb1; clear hb1)
      | (go_at_call 144; refine (ha.out _).mono ?_; rintro e w2 ⟨rfl, hw2⟩))
    go_ret2
    obtain ⟨t, rfl⟩ := hw2
    exact ⟨rfl, bstep HB1.out (bytes_world _ _ _) HB1.out.size⟩
end Go.Proofs.YtnmbbnhgoedjgaaGreatDoor.St1

