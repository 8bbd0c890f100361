/- rule.words.number: digits as a number, in a reader. -/
import Derived.Test.YtefhoecdoemgbaaGreatDoorRu5
import Derived.Test.YtefhoecdoemgbaaGreatDoorRu6
namespace Go.Proofs.YtefhoecdoemgbaaGreatDoor.Ru7
open Go Go.RowKit Go.Proofs.YtefhoecdoemgbaaGreatDoor.Ad0 Go.Proofs.YtefhoecdoemgbaaGreatDoor.Ad1 Go.Proofs.YtefhoecdoemgbaaGreatDoor.Ad3 Go.Proofs.YtefhoecdoemgbaaGreatDoor.St0 Go.Proofs.YtefhoecdoemgbaaGreatDoor.St1 Go.Proofs.YtefhoecdoemgbaaGreatDoor.St2 Go.Proofs.YtefhoecdoemgbaaGreatDoor.St3 Go.Proofs.YtefhoecdoemgbaaGreatDoor.Ru0 Go.Proofs.YtefhoecdoemgbaaGreatDoor.Ru1 Go.Proofs.YtefhoecdoemgbaaGreatDoor.Ru6
set_option linter.unusedVariables false
set_option linter.unusedSimpArgs false

/-- What is no number of at most k digits, in four ways. -/
theorem bad_ways (s : ByteArray) (k : Nat) (h : okNum k s.data.toList = false) : s.toList = [] ∨
    (s.toList.isEmpty = false ∧ ((k : Int) < s.size ∨ (¬ (k : Int) < s.size ∧ ∃ hlt : 0 < s.size,
      (((((s[0].toNat : Nat) : Int) == 48) = true ∧ (1 : Int) < s.size) ∨
       (Lib.trimS s.data.toList digits ≠ [] ∧ (((((s[0].toNat : Nat) : Int) == 48) = true ∧ ¬ (1 : Int) < s.size) ∨ (((s[0].toNat : Nat) : Int) == 48) = false)))))) := by
  by_cases h0 : s.data.toList = []
  · exact .inl (by rw [toList_data]; exact h0)
  · refine .inr ⟨by rw [toList_data]; simpa using h0, ?_⟩
    by_cases h3 : (k : Int) < s.size
    · exact .inl h3
    · refine .inr ⟨h3, ?_⟩
      have hlt : 0 < s.size := by
        rw [size_data]
        exact List.length_pos_iff.2 h0
      refine ⟨hlt, ?_⟩
      have hz : ∀ x : UInt8, s.data.toList.head? = some x → s[0] = x := by
        intro x hx
        have := List.head?_eq_getElem? (l := s.data.toList)
        rw [this] at hx
        have e : s.data.toList[0]? = some s[0] := by
          rw [Array.getElem?_toList]
          exact Array.getElem?_eq_getElem hlt
        rw [e] at hx
        exact Option.some.inj hx
      by_cases h4 : s[0].toNat = 48 ∧ 1 < s.size
      · obtain ⟨h5, h6⟩ := h4
        exact .inl ⟨by rw [beq_iff_eq]; omega, by omega⟩
      · right
        have hnd : s.data.toList.all isDig = false := by
          cases hc : s.data.toList.all isDig with
          | false => rfl
          | true =>
            exfalso
            have : okNum k s.data.toList = true := by
              unfold okNum
              rw [hc]
              have e1 : s.data.toList.isEmpty = false := by simpa using h0
              have e2 : s.data.toList.length ≤ k := by rw [← size_data]; omega
              rw [e1]
              simp only [Bool.not_false, Bool.true_and, Bool.and_true, Bool.and_eq_true, decide_eq_true_eq, Bool.not_eq_true', Bool.and_eq_false_iff]
              refine ⟨e2, ?_⟩
              by_cases h6 : 1 < s.size
              · left
                rw [beq_eq_false_iff_ne]
                intro hx
                have := hz 48 hx
                exact h4 ⟨by rw [this]; rfl, h6⟩
              · right
                rw [← size_data]
                simpa using h6
            rw [h] at this; cases this
        refine ⟨fun e => ?_, ?_⟩
        · rw [trim_digits] at e
          rw [hnd] at e; cases e
        · by_cases h5 : s[0].toNat = 48
          · left
            exact ⟨by rw [beq_iff_eq]; omega, fun hh => h4 ⟨h5, by omega⟩⟩
          · right
            rw [beq_eq_false_iff_ne]; omega
/-- What a number is. -/
theorem good_ways (s : ByteArray) (k : Nat) (h : okNum k s.data.toList = true) : s.toList.isEmpty = false ∧ ¬ (k : Int) < s.size ∧ s.data.toList ≠ [] ∧ s.data.toList.all isDig = true ∧ ∃ hlt : 0 < s.size,
    (((((s[0].toNat : Nat) : Int) == 48) = true ∧ ¬ (1 : Int) < s.size) ∨ (((s[0].toNat : Nat) : Int) == 48) = false) := by
  unfold okNum at h
  simp only [Bool.and_eq_true, decide_eq_true_eq, Bool.not_eq_true', Bool.and_eq_false_iff] at h
  obtain ⟨⟨⟨h0, h3⟩, hz⟩, hd⟩ := h
  have hne : s.data.toList ≠ [] := by simpa using h0
  have hlt : 0 < s.size := by
    rw [size_data]
    exact List.length_pos_iff.2 hne
  refine ⟨by rw [toList_data]; exact h0, by rw [size_data]; omega, hne, hd, hlt, ?_⟩
  by_cases h5 : s[0].toNat = 48
  · left
    refine ⟨by rw [beq_iff_eq]; omega, ?_⟩
    rcases hz with hz | hz
    · rw [beq_eq_false_iff_ne] at hz
      exfalso
      apply hz
      have e : s.data.toList[0]? = some s[0] := by
        rw [Array.getElem?_toList]
        exact Array.getElem?_eq_getElem hlt
      rw [List.head?_eq_getElem?, e]
      congr 1
      rw [← UInt8.toNat_inj, h5]; rfl
    · rw [← size_data] at hz
      simp at hz
      omega
  · right
    rw [beq_eq_false_iff_ne]; omega

set_option maxHeartbeats 1000000 in
theorem number_bad (g : Nat) (ws : Ws) (s : ByteArray) (hs : s.size ≤ 9223372036854775807) (W : World) (h : Rd 53 W g ws) (hn : okNum 9 s.data.toList = false) :
    Calls Tryz.prog 31 #[.pointer (some ⟨g, 0, none⟩), .string s] W fun e w' => e = .returned (.int .i64 0) ∧ Rd 53 w' g ⟨ws.l, true⟩ ∧ Upto g W w' := by
  have HH := Lib.hid h
  obtain ⟨c1, f1⟩ := h.cells
  clear h
  have ht := trim_any s W hs
  rcases bad_ways s 9 hn with h1 | ⟨h1, h3 | ⟨h3, hlt, ⟨h7, h8⟩ | ⟨htn, hz⟩⟩⟩
  · clear ht hn
    go_enter Tryz.func31, Tryz.ntmps31
    go_wp2_with fail
    go_ret
    exact ⟨rfl, HH.out.bad true, (Upto.refl _ _).set⟩
  · clear ht hn
    have h3' : (9 : Int) < s.size := h3
    clear h3
    go_enter Tryz.func31, Tryz.ntmps31
    go_wp2_with fail
    go_ret
    exact ⟨rfl, HH.out.bad true, (Upto.refl _ _).set⟩
  · clear ht hn
    have h3' : ¬ (9 : Int) < s.size := h3
    clear h3
    go_enter Tryz.func31, Tryz.ntmps31
    go_wp2_with fail
    go_ret
    exact ⟨rfl, HH.out.bad true, (Upto.refl _ _).set⟩
  · have h3' : ¬ (9 : Int) < s.size := h3
    clear h3 hn
    generalize Lib.trimS s.data.toList digits = tr at ht htn
    have hte : tr.isEmpty = false := by simpa using htn
    have HT := Lib.hid ht
    clear ht htn
    rcases hz with ⟨h7, h8⟩ | h7
    all_goals
      go_enter Tryz.func31, Tryz.ntmps31
      go_wp2_with (go_at_call 40; refine HT.out.mono ?_; rintro e w1 ⟨rfl, hb1⟩; have HR1 := Lib.hid (HH.out.below hb1); have HU := Lib.hid (Upto.of_below (g := g) hb1); clear hb1; obtain ⟨d1, e1⟩ := HR1.out.cells)
      go_ret
      exact ⟨rfl, HR1.out.bad true, HU.out.set⟩

set_option maxHeartbeats 1000000 in
theorem number_ok (g : Nat) (ws : Ws) (s : ByteArray) (W : World) (h : Rd 53 W g ws) (hn : okNum 9 s.data.toList = true) :
    Calls Tryz.prog 31 #[.pointer (some ⟨g, 0, none⟩), .string s] W fun e w' => e = .returned (.int .i64 (dv s.data.toList : Nat)) ∧ Rd 53 w' g ws ∧ Upto g W w' := by
  have HH := Lib.hid h
  clear h
  obtain ⟨h1, h3, hne, hd, hlt, hcase⟩ := good_ways s 9 hn
  have h3' : ¬ (9 : Int) < s.size := h3
  have ht := trim_any s W (by omega)
  rw [(trim_digits _).2 hd] at ht
  have HT := Lib.hid ht
  have ha := Lib.hid (fun W => Tryz.strconv_Atoi s _ (by omega) (atoi_digs _ hd hne) W)
  clear ht h3 hd hne hn
  generalize dv s.data.toList = v at ha ⊢
  have hnil : (⟨([] : List UInt8).toArray⟩ : ByteArray) = ⟨#[]⟩ := rfl
  rw [hnil] at HT
  rcases hcase with ⟨h7, h8⟩ | h7
  all_goals
    go_enter Tryz.func31, Tryz.ntmps31
    go_wp2_with (first
      | (go_at_call 40; refine HT.out.mono ?_; rintro e w1 ⟨rfl, hb1⟩; have HB1 := Lib.hid hb1; clear hb1)
      | (go_at_call 64; refine (ha.out _).mono ?_; rintro e w2 ⟨rfl, hw2⟩))
    go_ret
    obtain ⟨t, rfl⟩ := hw2
    exact ⟨rfl, HH.out.below (bstep HB1.out (bytes_world _ _ _) HB1.out.size), Upto.of_below (bstep HB1.out (bytes_world _ _ _) HB1.out.size)⟩
theorem number_any (g : Nat) (ws : Ws) (s : ByteArray) (hs : s.size ≤ 9223372036854775807) (W : World) (h : Rd 53 W g ws) :
    Calls Tryz.prog 31 #[.pointer (some ⟨g, 0, none⟩), .string s] W fun e w' => e = .returned (.int .i64 (numP ws s.data.toList).1) ∧ Rd 53 w' g (numP ws s.data.toList).2 ∧ Upto g W w' := by
  unfold numP
  by_cases hn : okNum 9 s.data.toList = true
  · rw [if_pos hn]
    exact number_ok g ws s W h hn
  · rw [if_neg hn]
    exact number_bad g ws s hs W h (by simpa using hn)
end Go.Proofs.YtefhoecdoemgbaaGreatDoor.Ru7
