/- castellanref14.Words: what stands between blanks. -/
import Derived.Test.YtnmbbnhgoedjgaaGreatDoorPRu5
namespace Go.Proofs.YtnmbbnhgoedjgaaGreatDoor.RuP
open Go Go.RowKit Go.Proofs.YtnmbbnhgoedjgaaGreatDoor.Ad3 Go.Proofs.YtnmbbnhgoedjgaaGreatDoor.St0 Go.Proofs.YtnmbbnhgoedjgaaGreatDoor.St5 Go.Proofs.YtnmbbnhgoedjgaaGreatDoor.Ru0 Go.Proofs.YtnmbbnhgoedjgaaGreatDoor.Ru4 Go.Proofs.YtnmbbnhgoedjgaaGreatDoor.Ru5 Go.Proofs.YtnmbbnhgoedjgaaGreatDoor.B1
set_option linter.unusedVariables false
set_option linter.unusedSimpArgs false
theorem word_on (s : ByteArray) (j e : Nat) (L : List Wd) (hj : j ≤ e) (he : e ≤ s.size) (hp : parts 32 (s.data.toList.take j) = L ++ [[]]) (hn : ∀ i, j ≤ i → i < e → ∀ hi : i < s.size, s[i] ≠ 32) : parts 32 (s.data.toList.take e) = L ++ [ext s (j, e)] := by
  rw [← take_on s j e hj]
  have h := parts_app 32 (ext s (j, e)) _ L [] (fun hm => by
    obtain ⟨i, i1, i2, hi, e1⟩ := ext_mem s j e he 32 hm
    exact hn i i1 i2 hi e1) hp
  simpa using h
theorem word_cut (s : ByteArray) (e : Nat) (L : List Wd) (p : Wd) (he : e < s.size) (hb : s[e] = 32) (hp : parts 32 (s.data.toList.take e) = L ++ [p]) : parts 32 (s.data.toList.take (e + 1)) = (L ++ [p]) ++ [[]] := by
  have h1 : s.data.toList.take (e + 1) = s.data.toList.take e ++ [32] := by
    have := take_step s e he
    rw [hb] at this
    exact this
  rw [h1, parts_snoc_c, hp]
/-- The words of what lies ahead of a place, where a word may begin; behind the end: all words. -/
def Sofar (s : ByteArray) (j : Nat) (xs : List ByteArray) : Prop := (j ≤ s.size ∧ ∃ L, parts 32 (s.data.toList.take j) = L ++ [[]] ∧ xs.map (·.data.toList) = L.filter ne) ∨ (j = s.size + 1 ∧ xs.map (·.data.toList) = wordsL s.data.toList)
theorem sofar_yes {s : ByteArray} {j e : Nat} {xs : List ByteArray} (h : Sofar s j xs) (hj : j < e) (he : e ≤ s.size) (hn : ∀ i, j ≤ i → i < e → ∀ hi : i < s.size, s[i] ≠ 32) (hend : e = s.size ∨ ∃ he : e < s.size, s[e] = 32) : Sofar s (e + 1) (xs ++ [s.extract j e]) := by
  rcases h with ⟨h1, L, h2, h3⟩ | ⟨h1, -⟩
  · have hw := word_on s j e L (by omega) he h2 hn
    have hne : ext s (j, e) ≠ [] := by
      intro e0
      have := congrArg List.length e0
      rw [ext_len s j e he] at this
      simp at this; omega
    have hx : (xs ++ [s.extract j e]).map (·.data.toList) = (L ++ [ext s (j, e)]).filter ne := by
      rw [filter_end, if_neg hne, List.map_append, h3]; rfl
    rcases hend with rfl | ⟨hlt, hb⟩
    · refine .inr ⟨rfl, ?_⟩
      rw [take_all'] at hw
      rw [hx, wordsL_eq, hw]
    · exact .inl ⟨by omega, _, word_cut s e L _ hlt hb hw, hx⟩
  · omega
theorem sofar_no {s : ByteArray} {j : Nat} {xs : List ByteArray} (h : Sofar s j xs) (hj : j ≤ s.size) (hend : j = s.size ∨ ∃ he : j < s.size, s[j] = 32) : Sofar s (j + 1) xs := by
  rcases h with ⟨h1, L, h2, h3⟩ | ⟨h1, -⟩
  · have hx : xs.map (·.data.toList) = (L ++ [[]]).filter ne := by
      rw [filter_end, h3]; simp
    rcases hend with rfl | ⟨hlt, hb⟩
    · refine .inr ⟨rfl, ?_⟩
      rw [take_all'] at h2
      rw [hx, wordsL_eq, h2]
    · exact .inl ⟨by omega, _, word_cut s j L _ hlt hb h2, hx⟩
  · omega
theorem sofar_end {s : ByteArray} {j : Nat} {xs : List ByteArray} (h : Sofar s j xs) (hj : s.size ≤ j) : xs.map (·.data.toList) = wordsL s.data.toList := by
  rcases h with ⟨h1, L, h2, h3⟩ | ⟨h1, h2⟩
  · obtain rfl : j = s.size := by omega
    rw [take_all'] at h2
    rw [wordsL_eq, h2, filter_end, h3]; simp
  · exact h2
set_option maxHeartbeats 4000000 in
theorem words_any (s : ByteArray) (hs : s.size ≤ 4294967295) (w : World) :
    Calls Tryz.prog 29 #[.string s] w fun e w' => ∃ (v : Value) (xs : List ByteArray), e = .returned v ∧ xs.map (·.data.toList) = wordsL s.data.toList ∧ (∀ x ∈ xs, x.size ≤ s.size) ∧
      w'.ownsRow w.heap.size 9 1 v xs.length (xs.map Value.string) ∧ Below w.heap.size w w' := by
  go_enter Tryz.func29, Tryz.ntmps29
  go_wp2_with fail
  go_loopw [3, 4, 5] (fun v a e wr => ∃ (j : Nat) (xs : List ByteArray), a = .int .i64 j ∧ j ≤ s.size + 1 ∧ xs.length ≤ j ∧ (∀ x ∈ xs, x.size ≤ s.size) ∧ wr.ownsRow w.heap.size 9 1 v xs.length (xs.map Value.string) ∧ Below w.heap.size w wr ∧ Sofar s j xs) (fun _ a _ _ => (s.size + 1 - intOf a).toNat)
  case atStart => exact ⟨0, [], rfl, by omega, by simp, by simp, World.ownsRow_nil _ _ _ _, Below.refl _ _, .inl ⟨by omega, [], rfl, rfl⟩⟩
  case round =>
    obtain ⟨j, xs, rfl, hj, hxl, hx, hown, hbl, hst⟩ := hrel
    have HO := Lib.hid hown
    have HB := Lib.hid hbl
    have HX := Lib.hid hx
    have HT := Lib.hid hst
    clear hown hbl hx hst
    by_cases hjs : j < s.size
    · have hjs' : (j : Int) < s.size := by omega
      obtain ⟨wo, hwo⟩ : ∃ wo : World, wo = wr := ⟨_, rfl⟩
      subst hwo
      go_wp2_with fail
      go_loopw [5] (fun e wi => ∃ k : Nat, e = .int .i64 k ∧ j ≤ k ∧ k ≤ s.size ∧ (∀ i, j ≤ i → i < k → ∀ hi : i < s.size, s[i] ≠ 32) ∧ wo = wi) (fun e _ => (s.size - intOf e).toNat)
      case atStart => exact ⟨j, rfl, Nat.le_refl _, by omega, fun i h1 h2 => absurd h1 (by omega), rfl⟩
      case round =>
        obtain ⟨k, rfl, hk1, hk2, hno, hwi⟩ := hrel
        subst hwi
        have HN := Lib.hid hno
        clear hno
        have hen : (k = s.size ∨ ∃ he : k < s.size, s[k] = 32) ∨ (∃ he : k < s.size, s[k] ≠ 32) := by
          by_cases h1 : k < s.size
          · by_cases h2 : s[k] = 32
            · exact .inl (.inr ⟨h1, h2⟩)
            · exact .inr ⟨h1, h2⟩
          · exact .inl (.inl (by omega))
        rcases hen with hend | ⟨hlt, hnb⟩
        · have HE := Lib.hid hend
          have hstop : (k = s.size) ∨ (∃ he : k < s.size, (((s[k].toNat : Nat) : Int) == 32) = true) := by
            rcases hend with h | ⟨h, hb⟩
            · exact .inl h
            · exact .inr ⟨h, by rw [hb]; rfl⟩
          clear hend
          by_cases hjk : j < k
          · have HS := Lib.hid (sofar_yes HT.out hjk hk2 HN.out HE.out)
            have hjk' : (j : Int) < k := by omega
            have hk2' : (k : Int) ≤ s.size := by omega
            rcases hstop with rfl | ⟨h1, h2⟩
            all_goals
              go_wp2_with (at_builtin; refine wpList_append_one rfl _ _ 55 rfl w.heap.size 9 (.string ByteArray.empty) 16 Tryz.underlying55 info9 rfl _ _ _ rfl HO.out (.string (s.extract j _)) rfl rfl (by simp [maxLen]; omega) (by omega) HB.out.size ?_; intro v' w' ho hb hz hn; have HO2 := Lib.hid ho; have HB2 := Lib.hid (HB.out.trans hb); clear ho hb hz hn)
              go_roundw
              case rel =>
                refine ⟨_ + 1, xs ++ [s.extract j _], by simp, by omega, by simp; omega, ?_, by simpa using HO2.out, HB2.out, HS.out⟩
                intro x hx
                rcases List.mem_append.1 hx with hx | hx
                · exact HX.out x hx
                · rw [List.mem_singleton] at hx
                  rw [hx, ByteArray.size_extract]; omega
              case measure => simp only [intOf]; omega
          · obtain rfl : k = j := by omega
            have HS := Lib.hid (sofar_no HT.out hk2 HE.out)
            rcases hstop with rfl | ⟨h1, h2⟩
            · omega
            · go_wp2_with fail
              go_roundw
              case rel => exact ⟨k + 1, xs, by simp, by omega, by omega, HX.out, HO.out, HB.out, HS.out⟩
              case measure => simp only [intOf]; omega
        · have hb2 : (((s[k].toNat : Nat) : Int) == 32) = false := by
            rw [beq_eq_false_iff_ne]
            intro e
            exact hnb (UInt8.toNat_inj.1 (by have : (32 : UInt8).toNat = 32 := rfl; omega))
          have HNB := Lib.hid hnb
          clear hnb
          have hlt' : (k : Int) < s.size := by omega
          go_wp2_with fail
          go_roundw
          case rel =>
            refine ⟨k + 1, by simp, by omega, by omega, fun i i1 i2 hi => ?_, trivial⟩
            by_cases e : i = k
            · subst e; exact HNB.out
            · exact HN.out i i1 (by omega) hi
          case measure => simp only [intOf]; omega
    · have hjs' : ¬ (j : Int) < s.size := by omega
      have HEND := Lib.hid (sofar_end HT.out (by omega))
      go_wp2_with fail
      go_ret
      exact ⟨u3, rfl, xs, HEND.out, HX.out, HO.out, HB.out⟩
end Go.Proofs.YtnmbbnhgoedjgaaGreatDoor.RuP

