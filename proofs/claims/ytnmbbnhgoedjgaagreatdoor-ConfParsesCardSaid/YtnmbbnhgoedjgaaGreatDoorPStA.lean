/- castellanref3.Parse. castellanref3.Print and PrintPrefix. -/
import Derived.Test.YtnmbbnhgoedjgaaGreatDoorPSt2
import Derived.Test.YtnmbbnhgoedjgaaGreatDoorPSt7
namespace Go.Proofs.YtnmbbnhgoedjgaaGreatDoor.St8
open Go Go.RowKit Go.Proofs.YtnmbbnhgoedjgaaGreatDoor.Ad0 Go.Proofs.YtnmbbnhgoedjgaaGreatDoor.Ad1 Go.Proofs.YtnmbbnhgoedjgaaGreatDoor.St0 Go.Proofs.YtnmbbnhgoedjgaaGreatDoor.St2 Go.Proofs.YtnmbbnhgoedjgaaGreatDoor.St5 Go.Proofs.YtnmbbnhgoedjgaaGreatDoor.St7
set_option linter.unusedVariables false
set_option linter.unusedSimpArgs false
/-- A number of so much at most. -/
def okM (most : Nat) (p : List UInt8) : Bool := okNum 3 p && decide (dv p ≤ most)
theorem okM_nine (most : Nat) (hm : most ≤ 999) (l : List UInt8) : (okNum 9 l && decide (dv l ≤ most)) = okM most l := by
  have h := numL_same l 9 3 most (by decide) (by decide) hm
  unfold numL at h
  unfold okM
  cases h1 : (okNum 9 l && decide (dv l ≤ most)) <;> cases h2 : (okNum 3 l && decide (dv l ≤ most)) <;> simp [h1, h2] at h ⊢
/-- What Num answers, in its two ways. -/
theorem numQ (b : ByteArray) (hb : b.size ≤ 9223372036854775807) (most : Nat) (hm : most ≤ 999) (W : World) : Calls Tryz.prog 65 #[.string b, .int .i64 most] W fun e w' => (okM most b.data.toList = true → e = .returned (.tuple #[.int .i64 (dv b.data.toList : Nat), .bool true])) ∧
    (okM most b.data.toList = false → ∃ n : Int, e = .returned (.tuple #[.int .i64 n, .bool false])) ∧ w' = W := by
  refine (num_any b hb most W).mono ?_
  rintro e w' ⟨rfl, rfl⟩
  have h9 := okM_nine most hm b.data.toList
  refine ⟨fun ho => ?_, fun ho => ?_, rfl⟩
  · rw [ho, Bool.and_eq_true, decide_eq_true_eq] at h9
    unfold numV
    rw [if_pos h9.1]
    have : decide ((dv b.data.toList : Int) ≤ (most : Nat)) = true := by simp; exact h9.2
    rw [this]
  · rw [ho] at h9
    unfold numV
    by_cases h : okNum 9 b.data.toList = true
    · rw [if_pos h]
      rw [h, Bool.true_and, decide_eq_false_iff_not] at h9
      refine ⟨(dv b.data.toList : Nat), ?_⟩
      have : decide ((dv b.data.toList : Int) ≤ (most : Nat)) = false := by simp; omega
      rw [this]
    · rw [if_neg h]
      exact ⟨0, rfl⟩
theorem own_four {w : World} {base n : Nat} {T : TypeId} {v : Value} {xs : List Value} (h : w.ownsRow base T 1 v n xs) (hn : 0 < n) :
    ∃ g cap, v = .slice (some ⟨g, 0, none⟩) n cap ∧ n ≤ cap ∧ ∀ j, j < n → w.cell? ⟨g, j, none⟩ = xs[j]? := by
  rcases h.2 with ⟨_, h0⟩ | ⟨g, cap, cur, rfl, hb, hg, hc, _⟩
  · omega
  · exact ⟨g, cap, rfl, hc, fun j hj => h.cellAt j (by omega)⟩
theorem four_of {α : Type} {l : List α} (h : l.length = 4) : ∃ a b c d, l = [a, b, c, d] := by
  match l, h with
  | [a, b, c, d], _ => exact ⟨a, b, c, d, rfl⟩
theorem four_map {α β : Type} {f : α → β} {l : List α} {a b c d : β} (h : l.map f = [a, b, c, d]) : ∃ x0 x1 x2 x3, l = [x0, x1, x2, x3] ∧ f x0 = a ∧ f x1 = b ∧ f x2 = c ∧ f x3 = d := by
  have hl := congrArg List.length h
  rw [List.length_map] at hl
  obtain ⟨x0, x1, x2, x3, rfl⟩ := four_of (α := α) hl
  simp at h
  exact ⟨x0, x1, x2, x3, rfl, h.1, h.2.1, h.2.2.1, h.2.2.2⟩
theorem own_form {w : World} {base n : Nat} {T : TypeId} {v : Value} {xs : List Value} (h : w.ownsRow base T 1 v n xs) : ∃ a cap, v = .slice a n cap := by
  rcases h.2 with ⟨e, h0⟩ | ⟨g, cap, cur, rfl, _⟩
  · subst h0; exact ⟨none, 0, e⟩
  · exact ⟨_, cap, rfl⟩
set_option maxHeartbeats 2000000 in
theorem rparse_any (s : ByteArray) (hs : s.size ≤ 4294967295) (w : World) :
    Calls Tryz.prog 115 #[.string s] w fun e w' => e = .returned (parseV (parseL s.data.toList)) ∧ Below w.heap.size w w' := by
  have hsp := split_any s 46 hs w
  unfold parseL
  have hsp' : Calls Tryz.prog 28 #[.string s, .int .u8 46] w _ := hsp
  have HS := Lib.hid hsp'
  clear hsp hsp'
  by_cases h4 : (parts 46 s.data.toList).length = 4
  · obtain ⟨p0, p1, p2, p3, hp4⟩ := four_of h4
    rw [hp4] at HS ⊢
    clear h4 hp4
    go_enter Tryz.func115, Tryz.ntmps115
    go_wp2_with (go_at_call 28; go_loud (refine HS.out.mono ?_; rintro e w1 ⟨v, bs, rfl, hp, hm, ho, hb⟩; have HM := Lib.hid hm; have HO := Lib.hid ho; have HB := Lib.hid hb; clear hm ho hb; obtain ⟨b0, b1, b2, b3, rfl, q0, q1, q2, q3⟩ := four_map hp; clear hp; obtain ⟨g, cap, rfl, hcap, hcl⟩ := own_four HO.out (by simp); simp only [List.length_cons, List.length_nil] at hcap hcl; have c0 := hcl 0 (by decide); have c1 := hcl 1 (by decide); have c2 := hcl 2 (by decide); have c3 := hcl 3 (by decide); clear hcl; simp only [List.map_cons, List.map_nil] at c0 c1 c2 c3))
    go_loopw [5, 6] (fun a i wr => ∃ j : Nat, j ≤ 4 ∧ i = .int .i64 j ∧ (∀ k, k < j → okP ([p0, p1, p2, p3].getD k []) = true) ∧ a = .int .u32 (accF [p0, p1, p2, p3] j : Nat) ∧ wr = w1) (fun _ i _ => (4 - intOf i).toNat)
    case atStart => exact ⟨0, by omega, rfl, fun k hk => absurd hk (by omega), rfl, rfl⟩
    case round =>
        obtain ⟨j, hj, rfl, hok, rfl, rfl⟩ := hrel
        match j, hj with
        | 0, _ =>
          have hN := numQ b0 (by have := HM.out b0 (by simp); omega) 255 (by decide) wr
          rw [q0] at hN
          cases hk : okP p0 with
          | true =>
            have hN' := hN.mono (R' := fun e w' => e = .returned (.tuple #[.int .i64 (dv p0 : Nat), .bool true]) ∧ w' = wr) fun e w' hh => ⟨hh.1 hk, hh.2.2⟩
            have hac := accF_lt [p0, p1, p2, p3] 0 (fun k hk => hok k hk)
            have hdv := okP_le hk
            have hor := or_byte (accF [p0, p1, p2, p3] 0) (dv p0) (by simp [accF]) hdv
            have hnx : accF [p0, p1, p2, p3] 0 * 256 + dv p0 = accF [p0, p1, p2, p3] 1 := by simp [accF]
            rw [hnx] at hor
            have HOR := Lib.hid hor
            have HN := Lib.hid hN'
            clear hN hN' hor hnx hac hdv
            go_wp2_with (go_at_call 65; refine HN.out.mono ?_; rintro e w2 ⟨rfl, rfl⟩)
            go_roundw
            case rel => exact ⟨1, by omega, rfl, fun k hk' => okstep hok hk hk', by rw [HOR.out], trivial⟩
            case measure => simp [intOf]
          | false =>
            have hN' := hN.mono (R' := fun e w' => (∃ n : Int, e = .returned (.tuple #[.int .i64 n, .bool false])) ∧ w' = wr) fun e w' hh => ⟨hh.2.1 hk, hh.2.2⟩
            have hb := num4_bad p0 p1 p2 p3 (by exact .inl hk)
            have HN := Lib.hid hN'
            have HBAD := Lib.hid hb
            clear hN hN' hb
            go_wp2_with (go_at_call 65; refine HN.out.mono ?_; rintro e w2 ⟨⟨n, rfl⟩, rfl⟩)
            go_ret2
            exact ⟨congrArg (fun r => Ending.returned (parseV r)) HBAD.out.symm, HB.out⟩
        | 1, _ =>
          have hN := numQ b1 (by have := HM.out b1 (by simp); omega) 255 (by decide) wr
          rw [q1] at hN
          cases hk : okP p1 with
          | true =>
            have hN' := hN.mono (R' := fun e w' => e = .returned (.tuple #[.int .i64 (dv p1 : Nat), .bool true]) ∧ w' = wr) fun e w' hh => ⟨hh.1 hk, hh.2.2⟩
            have hac := accF_lt [p0, p1, p2, p3] 1 (fun k hk => hok k hk)
            have hdv := okP_le hk
            have hor := or_byte (accF [p0, p1, p2, p3] 1) (dv p1) (by omega) hdv
            have hnx : accF [p0, p1, p2, p3] 1 * 256 + dv p1 = accF [p0, p1, p2, p3] 2 := by simp [accF]
            rw [hnx] at hor
            have HOR := Lib.hid hor
            have HN := Lib.hid hN'
            clear hN hN' hor hnx hac hdv
            go_wp2_with (go_at_call 65; refine HN.out.mono ?_; rintro e w2 ⟨rfl, rfl⟩)
            go_roundw
            case rel => exact ⟨2, by omega, rfl, fun k hk' => okstep hok hk hk', by rw [HOR.out], trivial⟩
            case measure => simp [intOf]
          | false =>
            have hN' := hN.mono (R' := fun e w' => (∃ n : Int, e = .returned (.tuple #[.int .i64 n, .bool false])) ∧ w' = wr) fun e w' hh => ⟨hh.2.1 hk, hh.2.2⟩
            have hb := num4_bad p0 p1 p2 p3 (by exact .inr (.inl hk))
            have HN := Lib.hid hN'
            have HBAD := Lib.hid hb
            clear hN hN' hb
            go_wp2_with (go_at_call 65; refine HN.out.mono ?_; rintro e w2 ⟨⟨n, rfl⟩, rfl⟩)
            go_ret2
            exact ⟨congrArg (fun r => Ending.returned (parseV r)) HBAD.out.symm, HB.out⟩
        | 2, _ =>
          have hN := numQ b2 (by have := HM.out b2 (by simp); omega) 255 (by decide) wr
          rw [q2] at hN
          cases hk : okP p2 with
          | true =>
            have hN' := hN.mono (R' := fun e w' => e = .returned (.tuple #[.int .i64 (dv p2 : Nat), .bool true]) ∧ w' = wr) fun e w' hh => ⟨hh.1 hk, hh.2.2⟩
            have hac := accF_lt [p0, p1, p2, p3] 2 (fun k hk => hok k hk)
            have hdv := okP_le hk
            have hor := or_byte (accF [p0, p1, p2, p3] 2) (dv p2) (by omega) hdv
            have hnx : accF [p0, p1, p2, p3] 2 * 256 + dv p2 = accF [p0, p1, p2, p3] 3 := by simp [accF]
            rw [hnx] at hor
            have HOR := Lib.hid hor
            have HN := Lib.hid hN'
            clear hN hN' hor hnx hac hdv
            go_wp2_with (go_at_call 65; refine HN.out.mono ?_; rintro e w2 ⟨rfl, rfl⟩)
            go_roundw
            case rel => exact ⟨3, by omega, rfl, fun k hk' => okstep hok hk hk', by rw [HOR.out], trivial⟩
            case measure => simp [intOf]
          | false =>
            have hN' := hN.mono (R' := fun e w' => (∃ n : Int, e = .returned (.tuple #[.int .i64 n, .bool false])) ∧ w' = wr) fun e w' hh => ⟨hh.2.1 hk, hh.2.2⟩
            have hb := num4_bad p0 p1 p2 p3 (by exact .inr (.inr (.inl hk)))
            have HN := Lib.hid hN'
            have HBAD := Lib.hid hb
            clear hN hN' hb
            go_wp2_with (go_at_call 65; refine HN.out.mono ?_; rintro e w2 ⟨⟨n, rfl⟩, rfl⟩)
            go_ret2
            exact ⟨congrArg (fun r => Ending.returned (parseV r)) HBAD.out.symm, HB.out⟩
        | 3, _ =>
          have hN := numQ b3 (by have := HM.out b3 (by simp); omega) 255 (by decide) wr
          rw [q3] at hN
          cases hk : okP p3 with
          | true =>
            have hN' := hN.mono (R' := fun e w' => e = .returned (.tuple #[.int .i64 (dv p3 : Nat), .bool true]) ∧ w' = wr) fun e w' hh => ⟨hh.1 hk, hh.2.2⟩
            have hac := accF_lt [p0, p1, p2, p3] 3 (fun k hk => hok k hk)
            have hdv := okP_le hk
            have hor := or_byte (accF [p0, p1, p2, p3] 3) (dv p3) (by omega) hdv
            have hnx : accF [p0, p1, p2, p3] 3 * 256 + dv p3 = accF [p0, p1, p2, p3] 4 := by simp [accF]
            rw [hnx] at hor
            have HOR := Lib.hid hor
            have HN := Lib.hid hN'
            clear hN hN' hor hnx hac hdv
            go_wp2_with (go_at_call 65; refine HN.out.mono ?_; rintro e w2 ⟨rfl, rfl⟩)
            go_roundw
            case rel => exact ⟨4, by omega, rfl, fun k hk' => okstep hok hk hk', by rw [HOR.out], trivial⟩
            case measure => simp [intOf]
          | false =>
            have hN' := hN.mono (R' := fun e w' => (∃ n : Int, e = .returned (.tuple #[.int .i64 n, .bool false])) ∧ w' = wr) fun e w' hh => ⟨hh.2.1 hk, hh.2.2⟩
            have hb := num4_bad p0 p1 p2 p3 (by exact .inr (.inr (.inr hk)))
            have HN := Lib.hid hN'
            have HBAD := Lib.hid hb
            clear hN hN' hb
            go_wp2_with (go_at_call 65; refine HN.out.mono ?_; rintro e w2 ⟨⟨n, rfl⟩, rfl⟩)
            go_ret2
            exact ⟨congrArg (fun r => Ending.returned (parseV r)) HBAD.out.symm, HB.out⟩
        | 4, _ =>
          have hgood := num4_ok p0 p1 p2 p3 (hok 0 (by decide)) (hok 1 (by decide)) (hok 2 (by decide)) (hok 3 (by decide))
          have HG := Lib.hid hgood
          clear hgood
          go_wp2_with fail
          go_ret2
          exact ⟨congrArg (fun r => Ending.returned (parseV r)) HG.out.symm, HB.out⟩
  · have hr : parseV (num4 (parts 46 s.data.toList)) = .tuple #[.int .u32 0, .int .i64 2] := by
      generalize parts 46 s.data.toList = bs at h4
      match bs, h4 with
      | [], _ => rfl
      | [_], _ => rfl
      | [_, _], _ => rfl
      | [_, _, _], _ => rfl
      | [_, _, _, _], h => exact absurd rfl h
      | _ :: _ :: _ :: _ :: _ :: _, _ => rfl
    rw [hr]
    clear hr
    go_enter Tryz.func115, Tryz.ntmps115
    go_wp2_with (go_at_call 28; go_loud (refine HS.out.mono ?_; rintro e w1 ⟨v, bs, rfl, hp, hm, ho, hb⟩; have h5 := congrArg List.length hp; rw [List.length_map] at h5; rw [← h5] at h4; have HB := Lib.hid hb; obtain ⟨a, cp, rfl⟩ := own_form ho; have hn : ((bs.length : Int) != 4) = true := (by rw [bne_iff_ne]; omega); clear hm ho hb hp h4 h5))
    go_ret2
    exact ⟨rfl, HB.out⟩
end Go.Proofs.YtnmbbnhgoedjgaaGreatDoor.St8
/- castellanref3.ParsePrefix. -/
namespace Go.Proofs.YtnmbbnhgoedjgaaGreatDoor.St9
open Go Go.RowKit Go.Proofs.YtnmbbnhgoedjgaaGreatDoor.Ad0 Go.Proofs.YtnmbbnhgoedjgaaGreatDoor.Ad1 Go.Proofs.YtnmbbnhgoedjgaaGreatDoor.St0 Go.Proofs.YtnmbbnhgoedjgaaGreatDoor.St2 Go.Proofs.YtnmbbnhgoedjgaaGreatDoor.St3 Go.Proofs.YtnmbbnhgoedjgaaGreatDoor.St5 Go.Proofs.YtnmbbnhgoedjgaaGreatDoor.St7 Go.Proofs.YtnmbbnhgoedjgaaGreatDoor.St8
set_option linter.unusedVariables false
set_option linter.unusedSimpArgs false
def prefR (ps : List (List UInt8)) : Option Pfx := match ps with
  | [a] => (parseL a).map fun a => ⟨a, 32⟩
  | [a, b] => if okM 32 b then (parseL a).map fun a => ⟨a, (dv b : Nat)⟩ else none
  | _ => none
theorem no_slash (k : Nat) (r : List UInt8) (h : 47 ∈ r) : okNum k r = false := by
  have hall : r.all isDig = false := by
    rw [Bool.eq_false_iff]
    intro ha
    have := List.all_eq_true.1 ha 47 h
    exact absurd this (by decide)
  unfold okNum
  rw [hall]; simp
theorem pref_parts (l : List UInt8) : prefL l = prefR (parts 47 l) := by
  unfold prefL
  by_cases h : 47 ∈ l
  · obtain ⟨a, r, rfl, hn⟩ := first_at 47 l h
    rw [cut_hit 47 a r hn, parts_append 47 a r hn]
    simp only [if_true]
    by_cases hr : 47 ∈ r
    · rw [no_slash 3 r hr]
      have h2 : (parts 47 r).length = r.count 47 + 1 := parts_len 47 r
      have h3 : 0 < r.count 47 := List.count_pos_iff.2 hr
      match hp : parts 47 r with
      | [] => rw [hp] at h2; simp at h2
      | [x] => rw [hp] at h2; simp at h2; omega
      | x :: y :: t => rfl
    · rw [parts_none 47 r hr]
      rfl
  · rw [cut_none 47 l h, parts_none 47 l h]
    rfl
theorem one_map {α β : Type} {f : α → β} {l : List α} {a : β} (h : l.map f = [a]) : ∃ x0, l = [x0] ∧ f x0 = a := by
  match l, h with
  | [x], h => exact ⟨x, rfl, by simpa using h⟩
theorem two_map {α β : Type} {f : α → β} {l : List α} {a b : β} (h : l.map f = [a, b]) : ∃ x0 x1, l = [x0, x1] ∧ f x0 = a ∧ f x1 = b := by
  match l, h with
  | [x, y], h => exact ⟨x, y, rfl, by simp at h; exact h.1, by simp at h; exact h.2⟩
theorem more_map {α β : Type} {f : α → β} {l : List α} {a b c : β} {t : List β} (h : l.map f = a :: b :: c :: t) : ∃ x0 x1 x2 xs, l = x0 :: x1 :: x2 :: xs ∧ f x0 = a := by
  match l, h with
  | x :: y :: z :: t, h => exact ⟨x, y, z, t, rfl, by simp at h; exact h.1⟩
theorem parse_case (r : Option Nat) : (r = none ∧ parseV r = .tuple #[.int .u32 0, .int .i64 2]) ∨ ∃ a : Nat, r = some a ∧ parseV r = .tuple #[.int .u32 a, .int .i64 0] := by
  cases r with
  | none => exact .inl ⟨rfl, rfl⟩
  | some a => exact .inr ⟨a, rfl, rfl⟩
set_option maxHeartbeats 2000000 in
theorem rpref_any (s : ByteArray) (hs : s.size ≤ 4294967295) (w : World) :
    Calls Tryz.prog 67 #[.string s] w fun e w' => e = .returned (prefV (prefL s.data.toList)) ∧ Below w.heap.size w w' := by
  have hsp := fun W => (show Calls Tryz.prog 28 #[.string s, .int .u8 47] W _ from split_any s 47 hs W)
  have hps := fun (b : ByteArray) (hb : b.size ≤ s.size) W => rparse_any b (by omega) W
  rw [pref_parts]
  have HS := Lib.hid hsp
  have HP := Lib.hid hps
  clear hsp hps
  have hb0 := Lib.hid (bnew w (.cells #[.int .u32 0, .int .i64 0] 43))
  have HR0 := Lib.hid (heap_alloc_new w (.cells #[.int .u32 0, .int .i64 0] 43))
  match hps : parts 47 s.data.toList with
  | [] => exact absurd hps (parts_ne _ _)
  | [p0] =>
    rw [hps] at HS
    clear hps
    have HP0 : Hid (∀ (b : ByteArray) (hb : b.size ≤ s.size) (hq : b.data.toList = p0) (W : World), Calls Tryz.prog 115 #[.string b] W fun e w' => e = .returned (parseV (parseL p0)) ∧ Below W.heap.size W w') := fun b hb hq W => hq ▸ HP.out b hb W
    clear HP
    rcases parse_case (parseL p0) with ⟨hr, hv⟩ | ⟨a, hr, hv⟩
    · rw [hv] at HP0
      rw [show prefR [p0] = none by simp [prefR, hr]]
      clear hr hv
      have key : Calls Tryz.prog 67 #[.string s] w fun e w' => e = .returned (.tuple #[.agg #[.int .u32 0, .int .i64 0], .int .i64 2]) ∧ Below w.heap.size w w' := by
        go_enter Tryz.func67, Tryz.ntmps67
        go_wp2_with (first
          | (go_at_call 28; refine (HS.out _).mono ?_; rintro e w1 ⟨v, bs, rfl, hp, hm, ho, hb⟩; have HM := Lib.hid hm; have HO := Lib.hid ho; have HB1 := Lib.hid (bstep hb0.out hb hb0.out.size); have HR1 := row_step HR0 hb; clear hm ho hb; obtain ⟨b0, rfl, q0⟩ := one_map hp; clear hp; obtain ⟨g, cap, rfl, hcap, hcl⟩ := own_four HO.out (by simp); simp only [List.length_cons, List.length_nil] at hcap hcl; have c0 := hcl 0 (by simp); clear hcl; simp only [List.map_cons, List.map_nil] at c0; have Q0 := Lib.hid q0; clear q0; skip)
          | (go_at_call 115; refine (HP0.out b0 (HM.out b0 (by simp)) Q0.out _).mono ?_; rintro e w2 ⟨rfl, hb2⟩; have HB2 := Lib.hid (bstep HB1.out hb2 HB1.out.size); have HR2 := row_step HR1 hb2; clear hb2; obtain ⟨d0, d1, d2, d3⟩ := box2 HR2.out))
        have hr := set_at (k := 1) (v := .int .i64 0) (set_at (k := 0) (v := .int .u32 0) HR2.out)
        exact box_ret hr rfl rfl rfl Tryz.underlying43 (by kernel_rfl) rfl ⟨rfl, set_b (set_b HB2.out (Nat.le_refl _)) (Nat.le_refl _)⟩
      exact key
    · rw [hv] at HP0
      rw [show prefR [p0] = some ⟨a, 32⟩ by simp [prefR, hr]]
      clear hr hv
      have key : Calls Tryz.prog 67 #[.string s] w fun e w' => e = .returned (.tuple #[.agg #[.int .u32 (a : Nat), .int .i64 32], .int .i64 0]) ∧ Below w.heap.size w w' := by
        go_enter Tryz.func67, Tryz.ntmps67
        go_wp2_with (first
          | (go_at_call 28; refine (HS.out _).mono ?_; rintro e w1 ⟨v, bs, rfl, hp, hm, ho, hb⟩; have HM := Lib.hid hm; have HO := Lib.hid ho; have HB1 := Lib.hid (bstep hb0.out hb hb0.out.size); have HR1 := row_step HR0 hb; clear hm ho hb; obtain ⟨b0, rfl, q0⟩ := one_map hp; clear hp; obtain ⟨g, cap, rfl, hcap, hcl⟩ := own_four HO.out (by simp); simp only [List.length_cons, List.length_nil] at hcap hcl; have c0 := hcl 0 (by simp); clear hcl; simp only [List.map_cons, List.map_nil] at c0; have Q0 := Lib.hid q0; clear q0; skip)
          | (go_at_call 115; refine (HP0.out b0 (HM.out b0 (by simp)) Q0.out _).mono ?_; rintro e w2 ⟨rfl, hb2⟩; have HB2 := Lib.hid (bstep HB1.out hb2 HB1.out.size); have HR2 := row_step HR1 hb2; clear hb2; obtain ⟨d0, d1, d2, d3⟩ := box2 HR2.out))
        have hr := set_at (k := 1) (v := .int .i64 32) (set_at (k := 0) (v := .int .u32 (a : Nat)) HR2.out)
        exact box_ret hr rfl rfl rfl Tryz.underlying43 (by kernel_rfl) rfl ⟨rfl, set_b (set_b HB2.out (Nat.le_refl _)) (Nat.le_refl _)⟩
      exact key
  | [p0, p1] =>
    rw [hps] at HS
    clear hps
    have HP0 : Hid (∀ (b : ByteArray) (hb : b.size ≤ s.size) (hq : b.data.toList = p0) (W : World), Calls Tryz.prog 115 #[.string b] W fun e w' => e = .returned (parseV (parseL p0)) ∧ Below W.heap.size W w') := fun b hb hq W => hq ▸ HP.out b hb W
    clear HP
    cases hk : okM 32 p1 with
    | true =>
      have HNG : Hid (∀ (b : ByteArray) (hb : b.size ≤ s.size) (hq : b.data.toList = p1) (W : World), Calls Tryz.prog 65 #[.string b, .int .i64 32] W fun e w' => e = .returned (.tuple #[.int .i64 (dv p1 : Nat), .bool true]) ∧ w' = W) := fun b hb hq W => (numQ b (by omega) 32 (by decide) W).mono fun e w' hh => ⟨(hh.1 (by rw [hq]; exact hk)).trans (by rw [hq]), hh.2.2⟩
      rcases parse_case (parseL p0) with ⟨hr, hv⟩ | ⟨a, hr, hv⟩
      · rw [hv] at HP0
        rw [show prefR [p0, p1] = none by simp [prefR, hr, hk]]
        clear hr hv
        have key : Calls Tryz.prog 67 #[.string s] w fun e w' => e = .returned (.tuple #[.agg #[.int .u32 0, .int .i64 0], .int .i64 2]) ∧ Below w.heap.size w w' := by
          go_enter Tryz.func67, Tryz.ntmps67
          go_wp2_with (first
            | (go_at_call 28; refine (HS.out _).mono ?_; rintro e w1 ⟨v, bs, rfl, hp, hm, ho, hb⟩; have HM := Lib.hid hm; have HO := Lib.hid ho; have HB1 := Lib.hid (bstep hb0.out hb hb0.out.size); have HR1 := row_step HR0 hb; clear hm ho hb; obtain ⟨b0, b1, rfl, q0, q1⟩ := two_map hp; clear hp; obtain ⟨g, cap, rfl, hcap, hcl⟩ := own_four HO.out (by simp); simp only [List.length_cons, List.length_nil] at hcap hcl; have c0 := hcl 0 (by simp); have c1 := hcl 1 (by simp); clear hcl; simp only [List.map_cons, List.map_nil] at c0 c1; have Q0 := Lib.hid q0; clear q0; have Q1 := Lib.hid q1; clear q1; skip)
            | (go_at_call 65; refine (HNG.out b1 (HM.out b1 (by simp)) Q1.out _).mono ?_; rintro e w3 ⟨rfl, rfl⟩)
            | (go_at_call 115; refine (HP0.out b0 (HM.out b0 (by simp)) Q0.out _).mono ?_; rintro e w2 ⟨rfl, hb2⟩; have HB2 := Lib.hid (bstep HB1.out hb2 HB1.out.size); have HR2 := row_step HR1 hb2; clear hb2; obtain ⟨d0, d1, d2, d3⟩ := box2 HR2.out))
          have hr := set_at (k := 1) (v := .int .i64 0) (set_at (k := 0) (v := .int .u32 0) HR2.out)
          exact box_ret hr rfl rfl rfl Tryz.underlying43 (by kernel_rfl) rfl ⟨rfl, set_b (set_b HB2.out (Nat.le_refl _)) (Nat.le_refl _)⟩
        exact key
      · rw [hv] at HP0
        rw [show prefR [p0, p1] = some ⟨a, (dv p1 : Nat)⟩ by simp [prefR, hr, hk]]
        clear hr hv
        have key : Calls Tryz.prog 67 #[.string s] w fun e w' => e = .returned (.tuple #[.agg #[.int .u32 (a : Nat), .int .i64 (dv p1 : Nat)], .int .i64 0]) ∧ Below w.heap.size w w' := by
          go_enter Tryz.func67, Tryz.ntmps67
          go_wp2_with (first
            | (go_at_call 28; refine (HS.out _).mono ?_; rintro e w1 ⟨v, bs, rfl, hp, hm, ho, hb⟩; have HM := Lib.hid hm; have HO := Lib.hid ho; have HB1 := Lib.hid (bstep hb0.out hb hb0.out.size); have HR1 := row_step HR0 hb; clear hm ho hb; obtain ⟨b0, b1, rfl, q0, q1⟩ := two_map hp; clear hp; obtain ⟨g, cap, rfl, hcap, hcl⟩ := own_four HO.out (by simp); simp only [List.length_cons, List.length_nil] at hcap hcl; have c0 := hcl 0 (by simp); have c1 := hcl 1 (by simp); clear hcl; simp only [List.map_cons, List.map_nil] at c0 c1; have Q0 := Lib.hid q0; clear q0; have Q1 := Lib.hid q1; clear q1; skip)
            | (go_at_call 65; refine (HNG.out b1 (HM.out b1 (by simp)) Q1.out _).mono ?_; rintro e w3 ⟨rfl, rfl⟩)
            | (go_at_call 115; refine (HP0.out b0 (HM.out b0 (by simp)) Q0.out _).mono ?_; rintro e w2 ⟨rfl, hb2⟩; have HB2 := Lib.hid (bstep HB1.out hb2 HB1.out.size); have HR2 := row_step HR1 hb2; clear hb2; obtain ⟨d0, d1, d2, d3⟩ := box2 HR2.out))
          have hr := set_at (k := 1) (v := .int .i64 (dv p1 : Nat)) (set_at (k := 0) (v := .int .u32 (a : Nat)) HR2.out)
          exact box_ret hr rfl rfl rfl Tryz.underlying43 (by kernel_rfl) rfl ⟨rfl, set_b (set_b HB2.out (Nat.le_refl _)) (Nat.le_refl _)⟩
        exact key
    | false =>
      have HNB : Hid (∀ (b : ByteArray) (hb : b.size ≤ s.size) (hq : b.data.toList = p1) (W : World), Calls Tryz.prog 65 #[.string b, .int .i64 32] W fun e w' => (∃ n : Int, e = .returned (.tuple #[.int .i64 n, .bool false])) ∧ w' = W) := fun b hb hq W => (numQ b (by omega) 32 (by decide) W).mono fun e w' hh => ⟨hh.2.1 (by rw [hq]; exact hk), hh.2.2⟩
      rcases parse_case (parseL p0) with ⟨hr, hv⟩ | ⟨a, hr, hv⟩
      · rw [hv] at HP0
        rw [show prefR [p0, p1] = none by simp [prefR, hr, hk]]
        clear hr hv
        have key : Calls Tryz.prog 67 #[.string s] w fun e w' => e = .returned (.tuple #[.agg #[.int .u32 0, .int .i64 0], .int .i64 2]) ∧ Below w.heap.size w w' := by
          go_enter Tryz.func67, Tryz.ntmps67
          go_wp2_with (first
            | (go_at_call 28; refine (HS.out _).mono ?_; rintro e w1 ⟨v, bs, rfl, hp, hm, ho, hb⟩; have HM := Lib.hid hm; have HO := Lib.hid ho; have HB1 := Lib.hid (bstep hb0.out hb hb0.out.size); have HR1 := row_step HR0 hb; clear hm ho hb; obtain ⟨b0, b1, rfl, q0, q1⟩ := two_map hp; clear hp; obtain ⟨g, cap, rfl, hcap, hcl⟩ := own_four HO.out (by simp); simp only [List.length_cons, List.length_nil] at hcap hcl; have c0 := hcl 0 (by simp); have c1 := hcl 1 (by simp); clear hcl; simp only [List.map_cons, List.map_nil] at c0 c1; have Q0 := Lib.hid q0; clear q0; have Q1 := Lib.hid q1; clear q1; skip)
            | (go_at_call 65; refine (HNB.out b1 (HM.out b1 (by simp)) Q1.out _).mono ?_; rintro e w3 ⟨⟨n, rfl⟩, rfl⟩)
            | (go_at_call 115; refine (HP0.out b0 (HM.out b0 (by simp)) Q0.out _).mono ?_; rintro e w2 ⟨rfl, hb2⟩; have HB2 := Lib.hid (bstep HB1.out hb2 HB1.out.size); have HR2 := row_step HR1 hb2; clear hb2; obtain ⟨d0, d1, d2, d3⟩ := box2 HR2.out))
          have hr := set_at (k := 1) (v := .int .i64 0) (set_at (k := 0) (v := .int .u32 0) HR2.out)
          exact box_ret hr rfl rfl rfl Tryz.underlying43 (by kernel_rfl) rfl ⟨rfl, set_b (set_b HB2.out (Nat.le_refl _)) (Nat.le_refl _)⟩
        exact key
      · rw [hv] at HP0
        rw [show prefR [p0, p1] = none by simp [prefR, hr, hk]]
        clear hr hv
        have key : Calls Tryz.prog 67 #[.string s] w fun e w' => e = .returned (.tuple #[.agg #[.int .u32 0, .int .i64 0], .int .i64 2]) ∧ Below w.heap.size w w' := by
          go_enter Tryz.func67, Tryz.ntmps67
          go_wp2_with (first
            | (go_at_call 28; refine (HS.out _).mono ?_; rintro e w1 ⟨v, bs, rfl, hp, hm, ho, hb⟩; have HM := Lib.hid hm; have HO := Lib.hid ho; have HB1 := Lib.hid (bstep hb0.out hb hb0.out.size); have HR1 := row_step HR0 hb; clear hm ho hb; obtain ⟨b0, b1, rfl, q0, q1⟩ := two_map hp; clear hp; obtain ⟨g, cap, rfl, hcap, hcl⟩ := own_four HO.out (by simp); simp only [List.length_cons, List.length_nil] at hcap hcl; have c0 := hcl 0 (by simp); have c1 := hcl 1 (by simp); clear hcl; simp only [List.map_cons, List.map_nil] at c0 c1; have Q0 := Lib.hid q0; clear q0; have Q1 := Lib.hid q1; clear q1; skip)
            | (go_at_call 65; refine (HNB.out b1 (HM.out b1 (by simp)) Q1.out _).mono ?_; rintro e w3 ⟨⟨n, rfl⟩, rfl⟩)
            | (go_at_call 115; refine (HP0.out b0 (HM.out b0 (by simp)) Q0.out _).mono ?_; rintro e w2 ⟨rfl, hb2⟩; have HB2 := Lib.hid (bstep HB1.out hb2 HB1.out.size); have HR2 := row_step HR1 hb2; clear hb2; obtain ⟨d0, d1, d2, d3⟩ := box2 HR2.out))
          have hr := set_at (k := 1) (v := .int .i64 0) (set_at (k := 0) (v := .int .u32 0) HR2.out)
          exact box_ret hr rfl rfl rfl Tryz.underlying43 (by kernel_rfl) rfl ⟨rfl, set_b (set_b HB2.out (Nat.le_refl _)) (Nat.le_refl _)⟩
        exact key
  | p0 :: p1 :: p2 :: ps =>
    rw [hps] at HS
    clear hps
    have HP0 : Hid (∀ (b : ByteArray) (hb : b.size ≤ s.size) (hq : b.data.toList = p0) (W : World), Calls Tryz.prog 115 #[.string b] W fun e w' => e = .returned (parseV (parseL p0)) ∧ Below W.heap.size W w') := fun b hb hq W => hq ▸ HP.out b hb W
    clear HP
    rcases parse_case (parseL p0) with ⟨hr, hv⟩ | ⟨a, hr, hv⟩
    · rw [hv] at HP0
      rw [show prefR (p0 :: p1 :: p2 :: ps) = none by simp [prefR, hr]]
      clear hr hv
      have key : Calls Tryz.prog 67 #[.string s] w fun e w' => e = .returned (.tuple #[.agg #[.int .u32 0, .int .i64 0], .int .i64 2]) ∧ Below w.heap.size w w' := by
        go_enter Tryz.func67, Tryz.ntmps67
        go_wp2_with (first
          | (go_at_call 28; refine (HS.out _).mono ?_; rintro e w1 ⟨v, bs, rfl, hp, hm, ho, hb⟩; have HM := Lib.hid hm; have HO := Lib.hid ho; have HB1 := Lib.hid (bstep hb0.out hb hb0.out.size); have HR1 := row_step HR0 hb; clear hm ho hb; obtain ⟨b0, b1, b2, bs, rfl, q0⟩ := more_map hp; clear hp; obtain ⟨g, cap, rfl, hcap, hcl⟩ := own_four HO.out (by simp); simp only [List.length_cons, List.length_nil] at hcap hcl; have c0 := hcl 0 (by simp); clear hcl; simp only [List.map_cons, List.map_nil] at c0; have Q0 := Lib.hid q0; clear q0; have hbl : (2 : Int) < bs.length + 1 + 1 + 1 := (by omega); have hbe : ((bs.length : Int) + 1 + 1 + 1 == 2) = false := beq_eq_false_iff_ne.2 (by omega); skip)
          | (go_at_call 115; refine (HP0.out b0 (HM.out b0 (by simp)) Q0.out _).mono ?_; rintro e w2 ⟨rfl, hb2⟩; have HB2 := Lib.hid (bstep HB1.out hb2 HB1.out.size); have HR2 := row_step HR1 hb2; clear hb2; obtain ⟨d0, d1, d2, d3⟩ := box2 HR2.out))
        have hr := set_at (k := 1) (v := .int .i64 0) (set_at (k := 0) (v := .int .u32 0) HR2.out)
        exact box_ret hr rfl rfl rfl Tryz.underlying43 (by kernel_rfl) rfl ⟨rfl, set_b (set_b HB2.out (Nat.le_refl _)) (Nat.le_refl _)⟩
      exact key
    · rw [hv] at HP0
      rw [show prefR (p0 :: p1 :: p2 :: ps) = none by simp [prefR, hr]]
      clear hr hv
      have key : Calls Tryz.prog 67 #[.string s] w fun e w' => e = .returned (.tuple #[.agg #[.int .u32 0, .int .i64 0], .int .i64 2]) ∧ Below w.heap.size w w' := by
        go_enter Tryz.func67, Tryz.ntmps67
        go_wp2_with (first
          | (go_at_call 28; refine (HS.out _).mono ?_; rintro e w1 ⟨v, bs, rfl, hp, hm, ho, hb⟩; have HM := Lib.hid hm; have HO := Lib.hid ho; have HB1 := Lib.hid (bstep hb0.out hb hb0.out.size); have HR1 := row_step HR0 hb; clear hm ho hb; obtain ⟨b0, b1, b2, bs, rfl, q0⟩ := more_map hp; clear hp; obtain ⟨g, cap, rfl, hcap, hcl⟩ := own_four HO.out (by simp); simp only [List.length_cons, List.length_nil] at hcap hcl; have c0 := hcl 0 (by simp); clear hcl; simp only [List.map_cons, List.map_nil] at c0; have Q0 := Lib.hid q0; clear q0; have hbl : (2 : Int) < bs.length + 1 + 1 + 1 := (by omega); have hbe : ((bs.length : Int) + 1 + 1 + 1 == 2) = false := beq_eq_false_iff_ne.2 (by omega); skip)
          | (go_at_call 115; refine (HP0.out b0 (HM.out b0 (by simp)) Q0.out _).mono ?_; rintro e w2 ⟨rfl, hb2⟩; have HB2 := Lib.hid (bstep HB1.out hb2 HB1.out.size); have HR2 := row_step HR1 hb2; clear hb2; obtain ⟨d0, d1, d2, d3⟩ := box2 HR2.out))
        have hr := set_at (k := 1) (v := .int .i64 0) (set_at (k := 0) (v := .int .u32 0) HR2.out)
        exact box_ret hr rfl rfl rfl Tryz.underlying43 (by kernel_rfl) rfl ⟨rfl, set_b (set_b HB2.out (Nat.le_refl _)) (Nat.le_refl _)⟩
      exact key
end Go.Proofs.YtnmbbnhgoedjgaaGreatDoor.St9

namespace Go.Proofs.YtnmbbnhgoedjgaaGreatDoor.StA
open Go Go.RowKit Go.Proofs.YtnmbbnhgoedjgaaGreatDoor.Ad0 Go.Proofs.YtnmbbnhgoedjgaaGreatDoor.Ad1 Go.Proofs.YtnmbbnhgoedjgaaGreatDoor.Ad3 Go.Proofs.YtnmbbnhgoedjgaaGreatDoor.St1 Go.Proofs.YtnmbbnhgoedjgaaGreatDoor.St2 Go.Proofs.YtnmbbnhgoedjgaaGreatDoor.St3 Go.Proofs.YtnmbbnhgoedjgaaGreatDoor.St4 Go.Proofs.YtnmbbnhgoedjgaaGreatDoor.St6
set_option linter.unusedVariables false
set_option linter.unusedSimpArgs false
theorem oct0 (a : Nat) (ha : a < 4294967296) : ((a : Int) / 16777216) = ((octF a 0 : Nat) : Int) := by
  unfold octF
  simp
  omega
theorem oct1 (a : Nat) (ha : a < 4294967296) : wrap64 (bits .and .u32 ((a : Int) / 65536) 255) = ((octF a 1 : Nat) : Int) := by
  have := oct_wrap (a / 65536) (Nat.lt_of_le_of_lt (Nat.div_le_self _ _) ha)
  simpa [octF] using this
theorem oct2 (a : Nat) (ha : a < 4294967296) : wrap64 (bits .and .u32 ((a : Int) / 256) 255) = ((octF a 2 : Nat) : Int) := by
  have := oct_wrap (a / 256) (Nat.lt_of_le_of_lt (Nat.div_le_self _ _) ha)
  simpa [octF] using this
theorem oct3 (a : Nat) (ha : a < 4294967296) : wrap64 (bits .and .u32 (a : Int) 255) = ((octF a 3 : Nat) : Int) := by
  have := oct_wrap a ha
  simpa [octF] using this
theorem dec_oct (a j : Nat) (W : World) : Calls Tryz.prog 82 #[.int .i64 (octF a j : Nat)] W fun e w' => e = .returned (.string (octS a j)) ∧ Below W.heap.size W w' := by
  have : octF a j < 256 := Nat.mod_lt _ (by decide)
  have h := dec_any (octF a j) (by omega) W
  unfold octS
  rw [itoa_nat]
  exact h
theorem octS_size (a j : Nat) : (octS a j).size ≤ 3 := by rw [size_data]; exact octS_len a j
theorem printL_sum (a : Nat) : octS a 0 ++ ⟨#[46]⟩ ++ octS a 1 ++ ⟨#[46]⟩ ++ octS a 2 ++ ⟨#[46]⟩ ++ octS a 3 = ⟨(printL a).toArray⟩ := by
  apply ByteArray.ext
  apply Array.ext'
  simp [printL, octL, Lib.join, List.intercalate, List.intersperse, ByteArray.data_append]
theorem app_size (a b : ByteArray) : (a ++ b).size = a.size + b.size := ByteArray.size_append
set_option maxHeartbeats 2000000 in
theorem rprint_any (a : Nat) (ha : a < 4294967296) (w : World) :
    Calls Tryz.prog 132 #[.int .u32 a] w fun e w' => e = .returned (.string ⟨(printL a).toArray⟩) ∧ Below w.heap.size w w' := by
  have h0 := fun W => dec_oct a 0 W
  have h1 := fun W => dec_oct a 1 W
  have h2 := fun W => dec_oct a 2 W
  have h3 := fun W => dec_oct a 3 W
  rw [← printL_sum]
  have z0 := octS_size a 0
  have z1 := octS_size a 1
  have z2 := octS_size a 2
  have z3 := octS_size a 3
  generalize octS a 0 = s0 at *
  generalize octS a 1 = s1 at *
  generalize octS a 2 = s2 at *
  generalize octS a 3 = s3 at *
  have hd : (⟨#[46]⟩ : ByteArray).size = 1 := rfl
  have ha0 := fun W => run_string_add_sum (P := Tryz.prog) W s0 ⟨#[46]⟩ (by omega)
  have hz0 : (s0 ++ (⟨#[46]⟩ : ByteArray)).size = s0.size + (⟨#[46]⟩ : ByteArray).size := app_size _ _
  have hn0 : ¬ (9223372036854775807 < s0.size + 1) := by omega
  generalize s0 ++ (⟨#[46]⟩ : ByteArray) = t0 at ha0 hz0 ⊢
  have ha1 := fun W => run_string_add_sum (P := Tryz.prog) W t0 s1 (by omega)
  have hz1 : (t0 ++ s1).size = t0.size + s1.size := app_size _ _
  have hn1 : ¬ (9223372036854775807 < t0.size + s1.size) := by omega
  generalize t0 ++ s1 = t1 at ha1 hz1 ⊢
  have ha2 := fun W => run_string_add_sum (P := Tryz.prog) W t1 ⟨#[46]⟩ (by omega)
  have hz2 : (t1 ++ (⟨#[46]⟩ : ByteArray)).size = t1.size + (⟨#[46]⟩ : ByteArray).size := app_size _ _
  have hn2 : ¬ (9223372036854775807 < t1.size + 1) := by omega
  generalize t1 ++ (⟨#[46]⟩ : ByteArray) = t2 at ha2 hz2 ⊢
  have ha3 := fun W => run_string_add_sum (P := Tryz.prog) W t2 s2 (by omega)
  have hz3 : (t2 ++ s2).size = t2.size + s2.size := app_size _ _
  have hn3 : ¬ (9223372036854775807 < t2.size + s2.size) := by omega
  generalize t2 ++ s2 = t3 at ha3 hz3 ⊢
  have ha4 := fun W => run_string_add_sum (P := Tryz.prog) W t3 ⟨#[46]⟩ (by omega)
  have hz4 : (t3 ++ (⟨#[46]⟩ : ByteArray)).size = t3.size + (⟨#[46]⟩ : ByteArray).size := app_size _ _
  have hn4 : ¬ (9223372036854775807 < t3.size + 1) := by omega
  generalize t3 ++ (⟨#[46]⟩ : ByteArray) = t4 at ha4 hz4 ⊢
  have ha5 := fun W => run_string_add_sum (P := Tryz.prog) W t4 s3 (by omega)
  have hz5 : (t4 ++ s3).size = t4.size + s3.size := app_size _ _
  have hn5 : ¬ (9223372036854775807 < t4.size + s3.size) := by omega
  generalize t4 ++ s3 = t5 at ha5 hz5 ⊢
  clear z0 z1 z2 z3 hz0 hz1 hz2 hz3 hz4 hz5 hd
  have H0 := Lib.hid h0
  have H1 := Lib.hid h1
  have H2 := Lib.hid h2
  have H3 := Lib.hid h3
  clear h0 h1 h2 h3
  go_enter Tryz.func132, Tryz.ntmps132
  have X0 := Lib.hid (oct0 a ha)
  have X1 := Lib.hid (oct1 a ha)
  have X2 := Lib.hid (oct2 a ha)
  have X3 := Lib.hid (oct3 a ha)
  go_wp2_with (first
    | (go_at_call 82; rw [X0.out]; (with_reducible refine (H0.out _).mono ?_); rintro e w1 ⟨rfl, hb1⟩; have HB1 := Lib.hid hb1; clear hb1)
    | (go_at_call 82; rw [X1.out]; (with_reducible refine (H1.out _).mono ?_); rintro e w2 ⟨rfl, hb2⟩; have HB2 := Lib.hid (bstep HB1.out hb2 HB1.out.size); clear hb2)
    | (go_at_call 82; rw [X2.out]; (with_reducible refine (H2.out _).mono ?_); rintro e w3 ⟨rfl, hb3⟩; have HB3 := Lib.hid (bstep HB2.out hb3 HB2.out.size); clear hb3)
    | (go_at_call 82; rw [X3.out]; (with_reducible refine (H3.out _).mono ?_); rintro e w4 ⟨rfl, hb4⟩; have HB4 := Lib.hid (bstep HB3.out hb4 HB3.out.size); clear hb4))
  go_ret
  exact ⟨rfl, HB4.out⟩
theorem dec_len_any (n : Int) (h0 : 0 ≤ n) (h1 : n ≤ 9223372036854775807) (w : World) : Calls Tryz.prog 82 #[.int .i64 n] w fun e w' => e = .returned (.string ⟨(Lib.itoa n).toArray⟩) ∧ Below w.heap.size w w' := by
  obtain ⟨k, rfl⟩ := Int.eq_ofNat_of_zero_le h0
  have h := dec_any k (by omega) w
  rw [← itoa_nat] at h
  exact h
set_option maxHeartbeats 2000000 in
theorem rpprint_any (p : Pfx) (hp : p.addr < 4294967296) (w : World) (hl : LibOK w) :
    Calls Tryz.prog 83 #[.agg #[.int .u32 p.addr, .int .i64 p.len]] w fun e w' => e = .returned (.string ⟨(printP p).toArray⟩) ∧ Below w.heap.size w w' := by
  unfold printP
  obtain ⟨D0, D1, D2, D3⟩ : _ ∧ _ ∧ _ ∧ _ := box2 (heap_alloc_new w (.cells #[.int .u32 p.addr, .int .i64 p.len] 43))
  have DB := Lib.hid (bnew w (.cells #[.int .u32 p.addr, .int .i64 p.len] 43))
  have DL := Lib.hid (hl.below (bnew w (.cells #[.int .u32 p.addr, .int .i64 p.len] 43)))
  by_cases hlen : 0 ≤ p.len ∧ p.len ≤ 32
  · rw [if_pos hlen]
    obtain ⟨l0, l1⟩ := hlen
    have hn0 : ¬ p.len < 0 := by omega
    have hn1 : ¬ 32 < p.len := by omega
    have hI := fun W => dec_len_any p.len l0 (by omega) W
    have hil : (Lib.itoa p.len).length ≤ 3 := by
      obtain ⟨n, hn⟩ := Int.eq_ofNat_of_zero_le l0
      rw [hn]
      have e := congrArg List.length (itoa_nat n)
      have := dec_len n (by omega)
      exact (by rw [e]; exact this)
    have hpl := print_len p.addr
    have HI := Lib.hid hI
    have HP := Lib.hid (fun W => rprint_any p.addr hp W)
    clear l0 l1 hI
    have e1 : (⟨(printL p.addr).toArray⟩ : ByteArray) ++ ⟨#[47]⟩ ++ ⟨(Lib.itoa p.len).toArray⟩ = ⟨(printL p.addr ++ 47 :: Lib.itoa p.len).toArray⟩ := by
      apply ByteArray.ext
      simp [ByteArray.data_append]
    rw [← e1]
    have z1 : (⟨(printL p.addr).toArray⟩ : ByteArray).size = (printL p.addr).length := by rw [size_data]
    have z2 : (⟨(Lib.itoa p.len).toArray⟩ : ByteArray).size = (Lib.itoa p.len).length := by rw [size_data]
    generalize (⟨(printL p.addr).toArray⟩ : ByteArray) = s1 at HP z1 ⊢
    generalize (⟨(Lib.itoa p.len).toArray⟩ : ByteArray) = s3 at HI z2 ⊢
    have hadd1 := fun W => run_string_add_sum (P := Tryz.prog) W s1 ⟨#[47]⟩ (by show s1.size + 1 ≤ _; omega)
    have z3 : (s1 ++ ⟨#[47]⟩).size = s1.size + 1 := by rw [ByteArray.size_append]; rfl
    generalize (s1 ++ ⟨#[47]⟩) = s2 at hadd1 z3 ⊢
    have hadd2 := fun W => run_string_add_sum (P := Tryz.prog) W s2 s3 (by omega)
    generalize (s2 ++ s3) = s4 at hadd2 ⊢
    have hno1 : ¬ (9223372036854775807 < s1.size + 1) := by omega
    have hno2 : ¬ (9223372036854775807 < s2.size + s3.size) := by omega
    clear z1 z2 z3 e1 hil hpl
    go_enter Tryz.func83, Tryz.ntmps83
    go_wp2_with fail
    have hz : w.heap.size < w.heap.size + 1 := by omega
    go_region_held3 (fun w' => w'.cell? ⟨w.heap.size, 0, none⟩ = some (.int .u32 p.addr) ∧ w'.cell? ⟨w.heap.size, 1, none⟩ = some (.int .i64 p.len) ∧ w.heap.size ≤ w'.heap.size ∧ Below w.heap.size w w' ∧ LibOK w')
      (first | exact begin1 D0 D1 DB.out.size DB.out DL.out | exact keep1 (by assumption) (by assumption))
      (first
        | (go_at_call 132; (with_reducible refine (HP.out _).mono ?_); rintro e v1 ⟨rfl, hb1⟩)
        | (go_at_call 82; (with_reducible refine (HI.out _).mono ?_); rintro e v1 ⟨rfl, hb1⟩))
    go_wp2
    go_ret
    exact ⟨rfl, below5 (by assumption)⟩
  · rw [if_neg hlen]
    have hn : p.len < 0 ∨ 32 < p.len := by omega
    rcases hn with hn | hn
    · go_enter Tryz.func83, Tryz.ntmps83
      go_wp2_with fail
      go_ret
      exact ⟨rfl, DB.out⟩
    · have hn0 : ¬ p.len < 0 := by omega
      go_enter Tryz.func83, Tryz.ntmps83
      go_wp2_with fail
      go_ret
      exact ⟨rfl, DB.out⟩
end Go.Proofs.YtnmbbnhgoedjgaaGreatDoor.StA

