/- castellanref3.Parse. -/
import Derived.Test.YtefhoecdoemgbaaGreatDoorSt2
import Derived.Test.YtefhoecdoemgbaaGreatDoorSt7
import Derived.Test.YtefhoecdoemgbaaGreatDoorSt3
namespace Go.Proofs.YtefhoecdoemgbaaGreatDoor.St8
open Go Go.RowKit Go.Proofs.YtefhoecdoemgbaaGreatDoor.Ad0 Go.Proofs.YtefhoecdoemgbaaGreatDoor.Ad1 Go.Proofs.YtefhoecdoemgbaaGreatDoor.Ad3 Go.Proofs.YtefhoecdoemgbaaGreatDoor.St0 Go.Proofs.YtefhoecdoemgbaaGreatDoor.St1 Go.Proofs.YtefhoecdoemgbaaGreatDoor.St2 Go.Proofs.YtefhoecdoemgbaaGreatDoor.St5 Go.Proofs.YtefhoecdoemgbaaGreatDoor.St7 Go.Proofs.YtefhoecdoemgbaaGreatDoor.B1
set_option linter.unusedVariables false
set_option linter.unusedSimpArgs false

/-- A number of so much at most. -/
def okM (most : Nat) (p : List UInt8) : Bool := okNum 3 p && decide (dv p ≤ most)
theorem okM_nine (most : Nat) (hm : most ≤ 999) (l : List UInt8) : (okNum 9 l && decide (dv l ≤ most)) = okM most l := by
  have h := numL_same l 9 3 most (by decide) (by decide) hm
  unfold numL at h
  unfold okM
  cases h1 : (okNum 9 l && decide (dv l ≤ most)) <;> cases h2 : (okNum 3 l && decide (dv l ≤ most)) <;> simp [h1, h2] at h ⊢
/-- What Num answers, in its two ways. -/
theorem numQ (b : ByteArray) (hb : b.size ≤ 9223372036854775807) (most : Nat) (hm : most ≤ 999) (W : World) : Calls Tryz.prog 66 #[.string b, .int .i64 most] W fun e w' => (okM most b.data.toList = true → e = .returned (.tuple #[.int .i64 (dv b.data.toList : Nat), .bool true])) ∧
    (okM most b.data.toList = false → ∃ n : Int, e = .returned (.tuple #[.int .i64 n, .bool false])) ∧ w' = W := by
  refine (num_any b hb most W).mono ?_
  rintro e w' ⟨rfl, rfl⟩
  have h9 := okM_nine most hm b.data.toList
  refine ⟨fun ho => ?_, fun ho => ?_, rfl⟩
  · rw [ho, Bool.and_eq_true, decide_eq_true_eq] at h9
    unfold numV
    rw [if_pos h9.1]
    have : decide ((dv b.data.toList : Int) ≤ (most : Nat)) = true := by simp; exact h9.2
    rw [this]
  · rw [ho] at h9
    unfold numV
    by_cases h : okNum 9 b.data.toList = true
    · rw [if_pos h]
      rw [h, Bool.true_and, decide_eq_false_iff_not] at h9
      refine ⟨(dv b.data.toList : Nat), ?_⟩
      have : decide ((dv b.data.toList : Int) ≤ (most : Nat)) = false := by simp; omega
      rw [this]
    · rw [if_neg h]
      exact ⟨0, rfl⟩
theorem own_four {w : World} {base n : Nat} {T : TypeId} {v : Value} {xs : List Value} (h : w.ownsRow base T 1 v n xs) (hn : 0 < n) :
    ∃ g cap, v = .slice (some ⟨g, 0, none⟩) n cap ∧ n ≤ cap ∧ ∀ j, j < n → w.cell? ⟨g, j, none⟩ = xs[j]? := by
  rcases h.2 with ⟨_, h0⟩ | ⟨g, cap, cur, rfl, hb, hg, hc, _⟩
  · omega
  · exact ⟨g, cap, rfl, hc, fun j hj => h.cellAt j (by omega)⟩

theorem four_of {α : Type} {l : List α} (h : l.length = 4) : ∃ a b c d, l = [a, b, c, d] := by
  match l, h with
  | [a, b, c, d], _ => exact ⟨a, b, c, d, rfl⟩
theorem four_map {α β : Type} {f : α → β} {l : List α} {a b c d : β} (h : l.map f = [a, b, c, d]) : ∃ x0 x1 x2 x3, l = [x0, x1, x2, x3] ∧ f x0 = a ∧ f x1 = b ∧ f x2 = c ∧ f x3 = d := by
  have hl := congrArg List.length h
  rw [List.length_map] at hl
  obtain ⟨x0, x1, x2, x3, rfl⟩ := four_of (α := α) hl
  simp at h
  exact ⟨x0, x1, x2, x3, rfl, h.1, h.2.1, h.2.2.1, h.2.2.2⟩
theorem own_form {w : World} {base n : Nat} {T : TypeId} {v : Value} {xs : List Value} (h : w.ownsRow base T 1 v n xs) : ∃ a cap, v = .slice a n cap := by
  rcases h.2 with ⟨e, h0⟩ | ⟨g, cap, cur, rfl, _⟩
  · subst h0; exact ⟨none, 0, e⟩
  · exact ⟨_, cap, rfl⟩

set_option maxHeartbeats 2000000 in
theorem rparse_any (s : ByteArray) (hs : s.size ≤ 4294967295) (w : World) :
    Calls Tryz.prog 92 #[.string s] w fun e w' => e = .returned (parseV (parseL s.data.toList)) ∧ Below w.heap.size w w' := by
  have hsp := split_any s 46 hs w
  unfold parseL
  have hsp' : Calls Tryz.prog 36 #[.string s, .int .u8 46] w _ := hsp
  have HS := Lib.hid hsp'
  clear hsp hsp'
  by_cases h4 : (parts 46 s.data.toList).length = 4
  · obtain ⟨p0, p1, p2, p3, hp4⟩ := four_of h4
    rw [hp4] at HS ⊢
    clear h4 hp4
    go_enter Tryz.func92, Tryz.ntmps92
    go_wp2_with (go_at_call 36; go_loud (refine HS.out.mono ?_; rintro e w1 ⟨v, bs, rfl, hp, hm, ho, hb⟩; have HM := Lib.hid hm; have HO := Lib.hid ho; have HB := Lib.hid hb; clear hm ho hb; obtain ⟨b0, b1, b2, b3, rfl, q0, q1, q2, q3⟩ := four_map hp; clear hp; obtain ⟨g, cap, rfl, hcap, hcl⟩ := own_four HO.out (by simp); simp only [List.length_cons, List.length_nil] at hcap hcl; have c0 := hcl 0 (by decide); have c1 := hcl 1 (by decide); have c2 := hcl 2 (by decide); have c3 := hcl 3 (by decide); clear hcl; simp only [List.map_cons, List.map_nil] at c0 c1 c2 c3))
    go_loopw [5, 6] (fun a i wr => ∃ j : Nat, j ≤ 4 ∧ i = .int .i64 j ∧ (∀ k, k < j → okP ([p0, p1, p2, p3].getD k []) = true) ∧ a = .int .u32 (accF [p0, p1, p2, p3] j : Nat) ∧ wr = w1) (fun _ i _ => (4 - intOf i).toNat)
    case atStart => exact ⟨0, by omega, rfl, fun k hk => absurd hk (by omega), rfl, rfl⟩
    case round =>
        obtain ⟨j, hj, rfl, hok, rfl, rfl⟩ := hrel
        match j, hj with
        | 0, _ =>
          have hN := numQ b0 (by have := HM.out b0 (by simp); omega) 255 (by decide) wr
          rw [q0] at hN
          cases hk : okP p0 with
          | true =>
            have hN' := hN.mono (R' := fun e w' => e = .returned (.tuple #[.int .i64 (dv p0 : Nat), .bool true]) ∧ w' = wr) fun e w' hh => ⟨hh.1 hk, hh.2.2⟩
            have hac := accF_lt [p0, p1, p2, p3] 0 (fun k hk => hok k hk)
            have hdv := okP_le hk
            have hor := or_byte (accF [p0, p1, p2, p3] 0) (dv p0) (by simp [accF]) hdv
            have hnx : accF [p0, p1, p2, p3] 0 * 256 + dv p0 = accF [p0, p1, p2, p3] 1 := by simp [accF]
            rw [hnx] at hor
            have HOR := Lib.hid hor
            have HN := Lib.hid hN'
            clear hN hN' hor hnx hac hdv
            go_wp2_with (go_at_call 66; refine HN.out.mono ?_; rintro e w2 ⟨rfl, rfl⟩)
            go_roundw
            case rel => exact ⟨1, by omega, rfl, fun k hk' => okstep hok hk hk', by rw [HOR.out], trivial⟩
            case measure => simp [intOf]
          | false =>
            have hN' := hN.mono (R' := fun e w' => (∃ n : Int, e = .returned (.tuple #[.int .i64 n, .bool false])) ∧ w' = wr) fun e w' hh => ⟨hh.2.1 hk, hh.2.2⟩
            have hb := num4_bad p0 p1 p2 p3 (by exact .inl hk)
            have HN := Lib.hid hN'
            have HBAD := Lib.hid hb
            clear hN hN' hb
            go_wp2_with (go_at_call 66; refine HN.out.mono ?_; rintro e w2 ⟨⟨n, rfl⟩, rfl⟩)
            go_ret2
            exact ⟨congrArg (fun r => Ending.returned (parseV r)) HBAD.out.symm, HB.out⟩
        | 1, _ =>
          have hN := numQ b1 (by have := HM.out b1 (by simp); omega) 255 (by decide) wr
          rw [q1] at hN
          cases hk : okP p1 with
          | true =>
            have hN' := hN.mono (R' := fun e w' => e = .returned (.tuple #[.int .i64 (dv p1 : Nat), .bool true]) ∧ w' = wr) fun e w' hh => ⟨hh.1 hk, hh.2.2⟩
            have hac := accF_lt [p0, p1, p2, p3] 1 (fun k hk => hok k hk)
            have hdv := okP_le hk
            have hor := or_byte (accF [p0, p1, p2, p3] 1) (dv p1) (by omega) hdv
            have hnx : accF [p0, p1, p2, p3] 1 * 256 + dv p1 = accF [p0, p1, p2, p3] 2 := by simp [accF]
            rw [hnx] at hor
            have HOR := Lib.hid hor
            have HN := Lib.hid hN'
            clear hN hN' hor hnx hac hdv
            go_wp2_with (go_at_call 66; refine HN.out.mono ?_; rintro e w2 ⟨rfl, rfl⟩)
            go_roundw
            case rel => exact ⟨2, by omega, rfl, fun k hk' => okstep hok hk hk', by rw [HOR.out], trivial⟩
            case measure => simp [intOf]
          | false =>
            have hN' := hN.mono (R' := fun e w' => (∃ n : Int, e = .returned (.tuple #[.int .i64 n, .bool false])) ∧ w' = wr) fun e w' hh => ⟨hh.2.1 hk, hh.2.2⟩
            have hb := num4_bad p0 p1 p2 p3 (by exact .inr (.inl hk))
            have HN := Lib.hid hN'
            have HBAD := Lib.hid hb
            clear hN hN' hb
            go_wp2_with (go_at_call 66; refine HN.out.mono ?_; rintro e w2 ⟨⟨n, rfl⟩, rfl⟩)
            go_ret2
            exact ⟨congrArg (fun r => Ending.returned (parseV r)) HBAD.out.symm, HB.out⟩
        | 2, _ =>
          have hN := numQ b2 (by have := HM.out b2 (by simp); omega) 255 (by decide) wr
          rw [q2] at hN
          cases hk : okP p2 with
          | true =>
            have hN' := hN.mono (R' := fun e w' => e = .returned (.tuple #[.int .i64 (dv p2 : Nat), .bool true]) ∧ w' = wr) fun e w' hh => ⟨hh.1 hk, hh.2.2⟩
            have hac := accF_lt [p0, p1, p2, p3] 2 (fun k hk => hok k hk)
            have hdv := okP_le hk
            have hor := or_byte (accF [p0, p1, p2, p3] 2) (dv p2) (by omega) hdv
            have hnx : accF [p0, p1, p2, p3] 2 * 256 + dv p2 = accF [p0, p1, p2, p3] 3 := by simp [accF]
            rw [hnx] at hor
            have HOR := Lib.hid hor
            have HN := Lib.hid hN'
            clear hN hN' hor hnx hac hdv
            go_wp2_with (go_at_call 66; refine HN.out.mono ?_; rintro e w2 ⟨rfl, rfl⟩)
            go_roundw
            case rel => exact ⟨3, by omega, rfl, fun k hk' => okstep hok hk hk', by rw [HOR.out], trivial⟩
            case measure => simp [intOf]
          | false =>
            have hN' := hN.mono (R' := fun e w' => (∃ n : Int, e = .returned (.tuple #[.int .i64 n, .bool false])) ∧ w' = wr) fun e w' hh => ⟨hh.2.1 hk, hh.2.2⟩
            have hb := num4_bad p0 p1 p2 p3 (by exact .inr (.inr (.inl hk)))
            have HN := Lib.hid hN'
            have HBAD := Lib.hid hb
            clear hN hN' hb
            go_wp2_with (go_at_call 66; refine HN.out.mono ?_; rintro e w2 ⟨⟨n, rfl⟩, rfl⟩)
            go_ret2
            exact ⟨congrArg (fun r => Ending.returned (parseV r)) HBAD.out.symm, HB.out⟩
        | 3, _ =>
          have hN := numQ b3 (by have := HM.out b3 (by simp); omega) 255 (by decide) wr
          rw [q3] at hN
          cases hk : okP p3 with
          | true =>
            have hN' := hN.mono (R' := fun e w' => e = .returned (.tuple #[.int .i64 (dv p3 : Nat), .bool true]) ∧ w' = wr) fun e w' hh => ⟨hh.1 hk, hh.2.2⟩
            have hac := accF_lt [p0, p1, p2, p3] 3 (fun k hk => hok k hk)
            have hdv := okP_le hk
            have hor := or_byte (accF [p0, p1, p2, p3] 3) (dv p3) (by omega) hdv
            have hnx : accF [p0, p1, p2, p3] 3 * 256 + dv p3 = accF [p0, p1, p2, p3] 4 := by simp [accF]
            rw [hnx] at hor
            have HOR := Lib.hid hor
            have HN := Lib.hid hN'
            clear hN hN' hor hnx hac hdv
            go_wp2_with (go_at_call 66; refine HN.out.mono ?_; rintro e w2 ⟨rfl, rfl⟩)
            go_roundw
            case rel => exact ⟨4, by omega, rfl, fun k hk' => okstep hok hk hk', by rw [HOR.out], trivial⟩
            case measure => simp [intOf]
          | false =>
            have hN' := hN.mono (R' := fun e w' => (∃ n : Int, e = .returned (.tuple #[.int .i64 n, .bool false])) ∧ w' = wr) fun e w' hh => ⟨hh.2.1 hk, hh.2.2⟩
            have hb := num4_bad p0 p1 p2 p3 (by exact .inr (.inr (.inr hk)))
            have HN := Lib.hid hN'
            have HBAD := Lib.hid hb
            clear hN hN' hb
            go_wp2_with (go_at_call 66; refine HN.out.mono ?_; rintro e w2 ⟨⟨n, rfl⟩, rfl⟩)
            go_ret2
            exact ⟨congrArg (fun r => Ending.returned (parseV r)) HBAD.out.symm, HB.out⟩
        | 4, _ =>
          have hgood := num4_ok p0 p1 p2 p3 (hok 0 (by decide)) (hok 1 (by decide)) (hok 2 (by decide)) (hok 3 (by decide))
          have HG := Lib.hid hgood
          clear hgood
          go_wp2_with fail
          go_ret2
          exact ⟨congrArg (fun r => Ending.returned (parseV r)) HG.out.symm, HB.out⟩
  · have hr : parseV (num4 (parts 46 s.data.toList)) = .tuple #[.int .u32 0, .int .i64 2] := by
      generalize parts 46 s.data.toList = bs at h4
      match bs, h4 with
      | [], _ => rfl
      | [_], _ => rfl
      | [_, _], _ => rfl
      | [_, _, _], _ => rfl
      | [_, _, _, _], h => exact absurd rfl h
      | _ :: _ :: _ :: _ :: _ :: _, _ => rfl
    rw [hr]
    clear hr
    go_enter Tryz.func92, Tryz.ntmps92
    go_wp2_with (go_at_call 36; go_loud (refine HS.out.mono ?_; rintro e w1 ⟨v, bs, rfl, hp, hm, ho, hb⟩; have h5 := congrArg List.length hp; rw [List.length_map] at h5; rw [← h5] at h4; have HB := Lib.hid hb; obtain ⟨a, cp, rfl⟩ := own_form ho; have hn : ((bs.length : Int) != 4) = true := (by rw [bne_iff_ne]; omega); clear hm ho hb hp h4 h5))
    go_ret2
    exact ⟨rfl, HB.out⟩
end Go.Proofs.YtefhoecdoemgbaaGreatDoor.St8
/- castellanref3.ParsePrefix. -/
namespace Go.Proofs.YtefhoecdoemgbaaGreatDoor.St9
open Go Go.RowKit Go.Proofs.YtefhoecdoemgbaaGreatDoor.Ad0 Go.Proofs.YtefhoecdoemgbaaGreatDoor.Ad1 Go.Proofs.YtefhoecdoemgbaaGreatDoor.Ad3 Go.Proofs.YtefhoecdoemgbaaGreatDoor.St0 Go.Proofs.YtefhoecdoemgbaaGreatDoor.St1 Go.Proofs.YtefhoecdoemgbaaGreatDoor.St2 Go.Proofs.YtefhoecdoemgbaaGreatDoor.St3 Go.Proofs.YtefhoecdoemgbaaGreatDoor.St5 Go.Proofs.YtefhoecdoemgbaaGreatDoor.St7 Go.Proofs.YtefhoecdoemgbaaGreatDoor.St8 Go.Proofs.YtefhoecdoemgbaaGreatDoor.B1
set_option linter.unusedVariables false
set_option linter.unusedSimpArgs false

def prefR (ps : List (List UInt8)) : Option Pfx := match ps with
  | [a] => (parseL a).map fun a => ⟨a, 32⟩
  | [a, b] => if okM 32 b then (parseL a).map fun a => ⟨a, (dv b : Nat)⟩ else none
  | _ => none
theorem no_slash (k : Nat) (r : List UInt8) (h : 47 ∈ r) : okNum k r = false := by
  have hall : r.all isDig = false := by
    rw [Bool.eq_false_iff]
    intro ha
    have := List.all_eq_true.1 ha 47 h
    exact absurd this (by decide)
  unfold okNum
  rw [hall]; simp
theorem pref_parts (l : List UInt8) : prefL l = prefR (parts 47 l) := by
  unfold prefL
  by_cases h : 47 ∈ l
  · obtain ⟨a, r, rfl, hn⟩ := first_at 47 l h
    rw [cut_hit 47 a r hn, parts_append 47 a r hn]
    simp only [if_true]
    by_cases hr : 47 ∈ r
    · rw [no_slash 3 r hr]
      have h2 : (parts 47 r).length = r.count 47 + 1 := parts_len 47 r
      have h3 : 0 < r.count 47 := List.count_pos_iff.2 hr
      match hp : parts 47 r with
      | [] => rw [hp] at h2; simp at h2
      | [x] => rw [hp] at h2; simp at h2; omega
      | x :: y :: t => rfl
    · rw [parts_none 47 r hr]
      rfl
  · rw [cut_none 47 l h, parts_none 47 l h]
    rfl

theorem one_map {α β : Type} {f : α → β} {l : List α} {a : β} (h : l.map f = [a]) : ∃ x0, l = [x0] ∧ f x0 = a := by
  match l, h with
  | [x], h => exact ⟨x, rfl, by simpa using h⟩
theorem two_map {α β : Type} {f : α → β} {l : List α} {a b : β} (h : l.map f = [a, b]) : ∃ x0 x1, l = [x0, x1] ∧ f x0 = a ∧ f x1 = b := by
  match l, h with
  | [x, y], h => exact ⟨x, y, rfl, by simp at h; exact h.1, by simp at h; exact h.2⟩
theorem more_map {α β : Type} {f : α → β} {l : List α} {a b c : β} {t : List β} (h : l.map f = a :: b :: c :: t) : ∃ x0 x1 x2 xs, l = x0 :: x1 :: x2 :: xs ∧ f x0 = a := by
  match l, h with
  | x :: y :: z :: t, h => exact ⟨x, y, z, t, rfl, by simp at h; exact h.1⟩
theorem parse_case (r : Option Nat) : (r = none ∧ parseV r = .tuple #[.int .u32 0, .int .i64 2]) ∨ ∃ a : Nat, r = some a ∧ parseV r = .tuple #[.int .u32 a, .int .i64 0] := by
  cases r with
  | none => exact .inl ⟨rfl, rfl⟩
  | some a => exact .inr ⟨a, rfl, rfl⟩

set_option maxHeartbeats 2000000 in
theorem rpref_any (s : ByteArray) (hs : s.size ≤ 4294967295) (w : World) :
    Calls Tryz.prog 65 #[.string s] w fun e w' => e = .returned (prefV (prefL s.data.toList)) ∧ Below w.heap.size w w' := by
  have hsp := fun W => (show Calls Tryz.prog 36 #[.string s, .int .u8 47] W _ from split_any s 47 hs W)
  have hps := fun (b : ByteArray) (hb : b.size ≤ s.size) W => rparse_any b (by omega) W
  rw [pref_parts]
  have HS := Lib.hid hsp
  have HP := Lib.hid hps
  clear hsp hps
  have hb0 := Lib.hid (bnew w (.cells #[.int .u32 0, .int .i64 0] 24))
  have HR0 := Lib.hid (heap_alloc_new w (.cells #[.int .u32 0, .int .i64 0] 24))
  match hps : parts 47 s.data.toList with
  | [] => exact absurd hps (parts_ne _ _)
  | [p0] =>
    rw [hps] at HS
    clear hps
    have HP0 : Hid (∀ (b : ByteArray) (hb : b.size ≤ s.size) (hq : b.data.toList = p0) (W : World), Calls Tryz.prog 92 #[.string b] W fun e w' => e = .returned (parseV (parseL p0)) ∧ Below W.heap.size W w') := fun b hb hq W => hq ▸ HP.out b hb W
    clear HP
    rcases parse_case (parseL p0) with ⟨hr, hv⟩ | ⟨a, hr, hv⟩
    · rw [hv] at HP0
      rw [show prefR [p0] = none by simp [prefR, hr]]
      clear hr hv
      have key : Calls Tryz.prog 65 #[.string s] w fun e w' => e = .returned (.tuple #[.agg #[.int .u32 0, .int .i64 0], .int .i64 2]) ∧ Below w.heap.size w w' := by
        go_enter Tryz.func65, Tryz.ntmps65
        go_wp2_with (first
          | (go_at_call 36; refine (HS.out _).mono ?_; rintro e w1 ⟨v, bs, rfl, hp, hm, ho, hb⟩; have HM := Lib.hid hm; have HO := Lib.hid ho; have HB1 := Lib.hid (bstep hb0.out hb hb0.out.size); have HR1 := row_step HR0 hb; clear hm ho hb; obtain ⟨b0, rfl, q0⟩ := one_map hp; clear hp; obtain ⟨g, cap, rfl, hcap, hcl⟩ := own_four HO.out (by simp); simp only [List.length_cons, List.length_nil] at hcap hcl; have c0 := hcl 0 (by simp); clear hcl; simp only [List.map_cons, List.map_nil] at c0; have Q0 := Lib.hid q0; clear q0; skip)
          | (go_at_call 92; refine (HP0.out b0 (HM.out b0 (by simp)) Q0.out _).mono ?_; rintro e w2 ⟨rfl, hb2⟩; have HB2 := Lib.hid (bstep HB1.out hb2 HB1.out.size); have HR2 := row_step HR1 hb2; clear hb2; obtain ⟨d0, d1, d2, d3⟩ := box2 HR2.out))
        have hr := set_at (k := 1) (v := .int .i64 0) (set_at (k := 0) (v := .int .u32 0) HR2.out)
        exact box_ret hr rfl rfl rfl Tryz.underlying24 (by kernel_rfl) rfl ⟨rfl, set_b (set_b HB2.out (Nat.le_refl _)) (Nat.le_refl _)⟩
      exact key
    · rw [hv] at HP0
      rw [show prefR [p0] = some ⟨a, 32⟩ by simp [prefR, hr]]
      clear hr hv
      have key : Calls Tryz.prog 65 #[.string s] w fun e w' => e = .returned (.tuple #[.agg #[.int .u32 (a : Nat), .int .i64 32], .int .i64 0]) ∧ Below w.heap.size w w' := by
        go_enter Tryz.func65, Tryz.ntmps65
        go_wp2_with (first
          | (go_at_call 36; refine (HS.out _).mono ?_; rintro e w1 ⟨v, bs, rfl, hp, hm, ho, hb⟩; have HM := Lib.hid hm; have HO := Lib.hid ho; have HB1 := Lib.hid (bstep hb0.out hb hb0.out.size); have HR1 := row_step HR0 hb; clear hm ho hb; obtain ⟨b0, rfl, q0⟩ := one_map hp; clear hp; obtain ⟨g, cap, rfl, hcap, hcl⟩ := own_four HO.out (by simp); simp only [List.length_cons, List.length_nil] at hcap hcl; have c0 := hcl 0 (by simp); clear hcl; simp only [List.map_cons, List.map_nil] at c0; have Q0 := Lib.hid q0; clear q0; skip)
          | (go_at_call 92; refine (HP0.out b0 (HM.out b0 (by simp)) Q0.out _).mono ?_; rintro e w2 ⟨rfl, hb2⟩; have HB2 := Lib.hid (bstep HB1.out hb2 HB1.out.size); have HR2 := row_step HR1 hb2; clear hb2; obtain ⟨d0, d1, d2, d3⟩ := box2 HR2.out))
        have hr := set_at (k := 1) (v := .int .i64 32) (set_at (k := 0) (v := .int .u32 (a : Nat)) HR2.out)
        exact box_ret hr rfl rfl rfl Tryz.underlying24 (by kernel_rfl) rfl ⟨rfl, set_b (set_b HB2.out (Nat.le_refl _)) (Nat.le_refl _)⟩
      exact key
  | [p0, p1] =>
    rw [hps] at HS
    clear hps
    have HP0 : Hid (∀ (b : ByteArray) (hb : b.size ≤ s.size) (hq : b.data.toList = p0) (W : World), Calls Tryz.prog 92 #[.string b] W fun e w' => e = .returned (parseV (parseL p0)) ∧ Below W.heap.size W w') := fun b hb hq W => hq ▸ HP.out b hb W
    clear HP
    cases hk : okM 32 p1 with
    | true =>
      have HNG : Hid (∀ (b : ByteArray) (hb : b.size ≤ s.size) (hq : b.data.toList = p1) (W : World), Calls Tryz.prog 66 #[.string b, .int .i64 32] W fun e w' => e = .returned (.tuple #[.int .i64 (dv p1 : Nat), .bool true]) ∧ w' = W) := fun b hb hq W => (numQ b (by omega) 32 (by decide) W).mono fun e w' hh => ⟨(hh.1 (by rw [hq]; exact hk)).trans (by rw [hq]), hh.2.2⟩
      rcases parse_case (parseL p0) with ⟨hr, hv⟩ | ⟨a, hr, hv⟩
      · rw [hv] at HP0
        rw [show prefR [p0, p1] = none by simp [prefR, hr, hk]]
        clear hr hv
        have key : Calls Tryz.prog 65 #[.string s] w fun e w' => e = .returned (.tuple #[.agg #[.int .u32 0, .int .i64 0], .int .i64 2]) ∧ Below w.heap.size w w' := by
          go_enter Tryz.func65, Tryz.ntmps65
          go_wp2_with (first
            | (go_at_call 36; refine (HS.out _).mono ?_; rintro e w1 ⟨v, bs, rfl, hp, hm, ho, hb⟩; have HM := Lib.hid hm; have HO := Lib.hid ho; have HB1 := Lib.hid (bstep hb0.out hb hb0.out.size); have HR1 := row_step HR0 hb; clear hm ho hb; obtain ⟨b0, b1, rfl, q0, q1⟩ := two_map hp; clear hp; obtain ⟨g, cap, rfl, hcap, hcl⟩ := own_four HO.out (by simp); simp only [List.length_cons, List.length_nil] at hcap hcl; have c0 := hcl 0 (by simp); have c1 := hcl 1 (by simp); clear hcl; simp only [List.map_cons, List.map_nil] at c0 c1; have Q0 := Lib.hid q0; clear q0; have Q1 := Lib.hid q1; clear q1; skip)
            | (go_at_call 66; refine (HNG.out b1 (HM.out b1 (by simp)) Q1.out _).mono ?_; rintro e w3 ⟨rfl, rfl⟩)
            | (go_at_call 92; refine (HP0.out b0 (HM.out b0 (by simp)) Q0.out _).mono ?_; rintro e w2 ⟨rfl, hb2⟩; have HB2 := Lib.hid (bstep HB1.out hb2 HB1.out.size); have HR2 := row_step HR1 hb2; clear hb2; obtain ⟨d0, d1, d2, d3⟩ := box2 HR2.out))
          have hr := set_at (k := 1) (v := .int .i64 0) (set_at (k := 0) (v := .int .u32 0) HR2.out)
          exact box_ret hr rfl rfl rfl Tryz.underlying24 (by kernel_rfl) rfl ⟨rfl, set_b (set_b HB2.out (Nat.le_refl _)) (Nat.le_refl _)⟩
        exact key
      · rw [hv] at HP0
        rw [show prefR [p0, p1] = some ⟨a, (dv p1 : Nat)⟩ by simp [prefR, hr, hk]]
        clear hr hv
        have key : Calls Tryz.prog 65 #[.string s] w fun e w' => e = .returned (.tuple #[.agg #[.int .u32 (a : Nat), .int .i64 (dv p1 : Nat)], .int .i64 0]) ∧ Below w.heap.size w w' := by
          go_enter Tryz.func65, Tryz.ntmps65
          go_wp2_with (first
            | (go_at_call 36; refine (HS.out _).mono ?_; rintro e w1 ⟨v, bs, rfl, hp, hm, ho, hb⟩; have HM := Lib.hid hm; have HO := Lib.hid ho; have HB1 := Lib.hid (bstep hb0.out hb hb0.out.size); have HR1 := row_step HR0 hb; clear hm ho hb; obtain ⟨b0, b1, rfl, q0, q1⟩ := two_map hp; clear hp; obtain ⟨g, cap, rfl, hcap, hcl⟩ := own_four HO.out (by simp); simp only [List.length_cons, List.length_nil] at hcap hcl; have c0 := hcl 0 (by simp); have c1 := hcl 1 (by simp); clear hcl; simp only [List.map_cons, List.map_nil] at c0 c1; have Q0 := Lib.hid q0; clear q0; have Q1 := Lib.hid q1; clear q1; skip)
            | (go_at_call 66; refine (HNG.out b1 (HM.out b1 (by simp)) Q1.out _).mono ?_; rintro e w3 ⟨rfl, rfl⟩)
            | (go_at_call 92; refine (HP0.out b0 (HM.out b0 (by simp)) Q0.out _).mono ?_; rintro e w2 ⟨rfl, hb2⟩; have HB2 := Lib.hid (bstep HB1.out hb2 HB1.out.size); have HR2 := row_step HR1 hb2; clear hb2; obtain ⟨d0, d1, d2, d3⟩ := box2 HR2.out))
          have hr := set_at (k := 1) (v := .int .i64 (dv p1 : Nat)) (set_at (k := 0) (v := .int .u32 (a : Nat)) HR2.out)
          exact box_ret hr rfl rfl rfl Tryz.underlying24 (by kernel_rfl) rfl ⟨rfl, set_b (set_b HB2.out (Nat.le_refl _)) (Nat.le_refl _)⟩
        exact key
    | false =>
      have HNB : Hid (∀ (b : ByteArray) (hb : b.size ≤ s.size) (hq : b.data.toList = p1) (W : World), Calls Tryz.prog 66 #[.string b, .int .i64 32] W fun e w' => (∃ n : Int, e = .returned (.tuple #[.int .i64 n, .bool false])) ∧ w' = W) := fun b hb hq W => (numQ b (by omega) 32 (by decide) W).mono fun e w' hh => ⟨hh.2.1 (by rw [hq]; exact hk), hh.2.2⟩
      rcases parse_case (parseL p0) with ⟨hr, hv⟩ | ⟨a, hr, hv⟩
      · rw [hv] at HP0
        rw [show prefR [p0, p1] = none by simp [prefR, hr, hk]]
        clear hr hv
        have key : Calls Tryz.prog 65 #[.string s] w fun e w' => e = .returned (.tuple #[.agg #[.int .u32 0, .int .i64 0], .int .i64 2]) ∧ Below w.heap.size w w' := by
          go_enter Tryz.func65, Tryz.ntmps65
          go_wp2_with (first
            | (go_at_call 36; refine (HS.out _).mono ?_; rintro e w1 ⟨v, bs, rfl, hp, hm, ho, hb⟩; have HM := Lib.hid hm; have HO := Lib.hid ho; have HB1 := Lib.hid (bstep hb0.out hb hb0.out.size); have HR1 := row_step HR0 hb; clear hm ho hb; obtain ⟨b0, b1, rfl, q0, q1⟩ := two_map hp; clear hp; obtain ⟨g, cap, rfl, hcap, hcl⟩ := own_four HO.out (by simp); simp only [List.length_cons, List.length_nil] at hcap hcl; have c0 := hcl 0 (by simp); have c1 := hcl 1 (by simp); clear hcl; simp only [List.map_cons, List.map_nil] at c0 c1; have Q0 := Lib.hid q0; clear q0; have Q1 := Lib.hid q1; clear q1; skip)
            | (go_at_call 66; refine (HNB.out b1 (HM.out b1 (by simp)) Q1.out _).mono ?_; rintro e w3 ⟨⟨n, rfl⟩, rfl⟩)
            | (go_at_call 92; refine (HP0.out b0 (HM.out b0 (by simp)) Q0.out _).mono ?_; rintro e w2 ⟨rfl, hb2⟩; have HB2 := Lib.hid (bstep HB1.out hb2 HB1.out.size); have HR2 := row_step HR1 hb2; clear hb2; obtain ⟨d0, d1, d2, d3⟩ := box2 HR2.out))
          have hr := set_at (k := 1) (v := .int .i64 0) (set_at (k := 0) (v := .int .u32 0) HR2.out)
          exact box_ret hr rfl rfl rfl Tryz.underlying24 (by kernel_rfl) rfl ⟨rfl, set_b (set_b HB2.out (Nat.le_refl _)) (Nat.le_refl _)⟩
        exact key
      · rw [hv] at HP0
        rw [show prefR [p0, p1] = none by simp [prefR, hr, hk]]
        clear hr hv
        have key : Calls Tryz.prog 65 #[.string s] w fun e w' => e = .returned (.tuple #[.agg #[.int .u32 0, .int .i64 0], .int .i64 2]) ∧ Below w.heap.size w w' := by
          go_enter Tryz.func65, Tryz.ntmps65
          go_wp2_with (first
            | (go_at_call 36; refine (HS.out _).mono ?_; rintro e w1 ⟨v, bs, rfl, hp, hm, ho, hb⟩; have HM := Lib.hid hm; have HO := Lib.hid ho; have HB1 := Lib.hid (bstep hb0.out hb hb0.out.size); have HR1 := row_step HR0 hb; clear hm ho hb; obtain ⟨b0, b1, rfl, q0, q1⟩ := two_map hp; clear hp; obtain ⟨g, cap, rfl, hcap, hcl⟩ := own_four HO.out (by simp); simp only [List.length_cons, List.length_nil] at hcap hcl; have c0 := hcl 0 (by simp); have c1 := hcl 1 (by simp); clear hcl; simp only [List.map_cons, List.map_nil] at c0 c1; have Q0 := Lib.hid q0; clear q0; have Q1 := Lib.hid q1; clear q1; skip)
            | (go_at_call 66; refine (HNB.out b1 (HM.out b1 (by simp)) Q1.out _).mono ?_; rintro e w3 ⟨⟨n, rfl⟩, rfl⟩)
            | (go_at_call 92; refine (HP0.out b0 (HM.out b0 (by simp)) Q0.out _).mono ?_; rintro e w2 ⟨rfl, hb2⟩; have HB2 := Lib.hid (bstep HB1.out hb2 HB1.out.size); have HR2 := row_step HR1 hb2; clear hb2; obtain ⟨d0, d1, d2, d3⟩ := box2 HR2.out))
          have hr := set_at (k := 1) (v := .int .i64 0) (set_at (k := 0) (v := .int .u32 0) HR2.out)
          exact box_ret hr rfl rfl rfl Tryz.underlying24 (by kernel_rfl) rfl ⟨rfl, set_b (set_b HB2.out (Nat.le_refl _)) (Nat.le_refl _)⟩
        exact key
  | p0 :: p1 :: p2 :: ps =>
    rw [hps] at HS
    clear hps
    have HP0 : Hid (∀ (b : ByteArray) (hb : b.size ≤ s.size) (hq : b.data.toList = p0) (W : World), Calls Tryz.prog 92 #[.string b] W fun e w' => e = .returned (parseV (parseL p0)) ∧ Below W.heap.size W w') := fun b hb hq W => hq ▸ HP.out b hb W
    clear HP
    rcases parse_case (parseL p0) with ⟨hr, hv⟩ | ⟨a, hr, hv⟩
    · rw [hv] at HP0
      rw [show prefR (p0 :: p1 :: p2 :: ps) = none by simp [prefR, hr]]
      clear hr hv
      have key : Calls Tryz.prog 65 #[.string s] w fun e w' => e = .returned (.tuple #[.agg #[.int .u32 0, .int .i64 0], .int .i64 2]) ∧ Below w.heap.size w w' := by
        go_enter Tryz.func65, Tryz.ntmps65
        go_wp2_with (first
          | (go_at_call 36; refine (HS.out _).mono ?_; rintro e w1 ⟨v, bs, rfl, hp, hm, ho, hb⟩; have HM := Lib.hid hm; have HO := Lib.hid ho; have HB1 := Lib.hid (bstep hb0.out hb hb0.out.size); have HR1 := row_step HR0 hb; clear hm ho hb; obtain ⟨b0, b1, b2, bs, rfl, q0⟩ := more_map hp; clear hp; obtain ⟨g, cap, rfl, hcap, hcl⟩ := own_four HO.out (by simp); simp only [List.length_cons, List.length_nil] at hcap hcl; have c0 := hcl 0 (by simp); clear hcl; simp only [List.map_cons, List.map_nil] at c0; have Q0 := Lib.hid q0; clear q0; have hbl : (2 : Int) < bs.length + 1 + 1 + 1 := (by omega); have hbe : ((bs.length : Int) + 1 + 1 + 1 == 2) = false := beq_eq_false_iff_ne.2 (by omega); skip)
          | (go_at_call 92; refine (HP0.out b0 (HM.out b0 (by simp)) Q0.out _).mono ?_; rintro e w2 ⟨rfl, hb2⟩; have HB2 := Lib.hid (bstep HB1.out hb2 HB1.out.size); have HR2 := row_step HR1 hb2; clear hb2; obtain ⟨d0, d1, d2, d3⟩ := box2 HR2.out))
        have hr := set_at (k := 1) (v := .int .i64 0) (set_at (k := 0) (v := .int .u32 0) HR2.out)
        exact box_ret hr rfl rfl rfl Tryz.underlying24 (by kernel_rfl) rfl ⟨rfl, set_b (set_b HB2.out (Nat.le_refl _)) (Nat.le_refl _)⟩
      exact key
    · rw [hv] at HP0
      rw [show prefR (p0 :: p1 :: p2 :: ps) = none by simp [prefR, hr]]
      clear hr hv
      have key : Calls Tryz.prog 65 #[.string s] w fun e w' => e = .returned (.tuple #[.agg #[.int .u32 0, .int .i64 0], .int .i64 2]) ∧ Below w.heap.size w w' := by
        go_enter Tryz.func65, Tryz.ntmps65
        go_wp2_with (first
          | (go_at_call 36; refine (HS.out _).mono ?_; rintro e w1 ⟨v, bs, rfl, hp, hm, ho, hb⟩; have HM := Lib.hid hm; have HO := Lib.hid ho; have HB1 := Lib.hid (bstep hb0.out hb hb0.out.size); have HR1 := row_step HR0 hb; clear hm ho hb; obtain ⟨b0, b1, b2, bs, rfl, q0⟩ := more_map hp; clear hp; obtain ⟨g, cap, rfl, hcap, hcl⟩ := own_four HO.out (by simp); simp only [List.length_cons, List.length_nil] at hcap hcl; have c0 := hcl 0 (by simp); clear hcl; simp only [List.map_cons, List.map_nil] at c0; have Q0 := Lib.hid q0; clear q0; have hbl : (2 : Int) < bs.length + 1 + 1 + 1 := (by omega); have hbe : ((bs.length : Int) + 1 + 1 + 1 == 2) = false := beq_eq_false_iff_ne.2 (by omega); skip)
          | (go_at_call 92; refine (HP0.out b0 (HM.out b0 (by simp)) Q0.out _).mono ?_; rintro e w2 ⟨rfl, hb2⟩; have HB2 := Lib.hid (bstep HB1.out hb2 HB1.out.size); have HR2 := row_step HR1 hb2; clear hb2; obtain ⟨d0, d1, d2, d3⟩ := box2 HR2.out))
        have hr := set_at (k := 1) (v := .int .i64 0) (set_at (k := 0) (v := .int .u32 0) HR2.out)
        exact box_ret hr rfl rfl rfl Tryz.underlying24 (by kernel_rfl) rfl ⟨rfl, set_b (set_b HB2.out (Nat.le_refl _)) (Nat.le_refl _)⟩
      exact key
end Go.Proofs.YtefhoecdoemgbaaGreatDoor.St9
