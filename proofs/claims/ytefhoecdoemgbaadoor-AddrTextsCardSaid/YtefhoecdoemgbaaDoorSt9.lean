/- castellanref3.ParsePrefix. -/
import Derived.Test.YtefhoecdoemgbaaDoorSt8
namespace Go.Proofs.YtefhoecdoemgbaaDoor.St9
open Go Go.RowKit Go.Proofs.YtefhoecdoemgbaaDoor.Ad0 Go.Proofs.YtefhoecdoemgbaaDoor.Ad1 Go.Proofs.YtefhoecdoemgbaaDoor.Ad3 Go.Proofs.YtefhoecdoemgbaaDoor.St0 Go.Proofs.YtefhoecdoemgbaaDoor.St1 Go.Proofs.YtefhoecdoemgbaaDoor.St2 Go.Proofs.YtefhoecdoemgbaaDoor.St3 Go.Proofs.YtefhoecdoemgbaaDoor.St4 Go.Proofs.YtefhoecdoemgbaaDoor.St5 Go.Proofs.YtefhoecdoemgbaaDoor.St7 Go.Proofs.YtefhoecdoemgbaaDoor.St8 Go.Proofs.YtefhoecdoemgbaaDoor.B1
set_option linter.unusedVariables false
set_option linter.unusedSimpArgs false

def prefR (ps : List (List UInt8)) : Option Pfx := match ps with
  | [a] => (parseL a).map fun a => ⟨a, 32⟩
  | [a, b] => if okM 32 b then (parseL a).map fun a => ⟨a, (dv b : Nat)⟩ else none
  | _ => none
theorem no_slash (k : Nat) (r : List UInt8) (h : 47 ∈ r) : okNum k r = false := by
  have hall : r.all isDig = false := by
    rw [Bool.eq_false_iff]
    intro ha
    have := List.all_eq_true.1 ha 47 h
    exact absurd this (by decide)
  unfold okNum
  rw [hall]; simp
theorem pref_parts (l : List UInt8) : prefL l = prefR (parts 47 l) := by
  unfold prefL
  by_cases h : 47 ∈ l
  · obtain ⟨a, r, rfl, hn⟩ := first_at 47 l h
    rw [cut_hit 47 a r hn, parts_append 47 a r hn]
    simp only [if_true]
    by_cases hr : 47 ∈ r
    · rw [no_slash 3 r hr]
      have h2 : (parts 47 r).length = r.count 47 + 1 := parts_len 47 r
      have h3 : 0 < r.count 47 := List.count_pos_iff.2 hr
      match hp : parts 47 r with
      | [] => rw [hp] at h2; simp at h2
      | [x] => rw [hp] at h2; simp at h2; omega
      | x :: y :: t => rfl
    · rw [parts_none 47 r hr]
      rfl
  · rw [cut_none 47 l h, parts_none 47 l h]
    rfl

theorem one_map {α β : Type} {f : α → β} {l : List α} {a : β} (h : l.map f = [a]) : ∃ x0, l = [x0] ∧ f x0 = a := by
  match l, h with
  | [x], h => exact ⟨x, rfl, by simpa using h⟩
theorem two_map {α β : Type} {f : α → β} {l : List α} {a b : β} (h : l.map f = [a, b]) : ∃ x0 x1, l = [x0, x1] ∧ f x0 = a ∧ f x1 = b := by
  match l, h with
  | [x, y], h => exact ⟨x, y, rfl, by simp at h; exact h.1, by simp at h; exact h.2⟩
theorem more_map {α β : Type} {f : α → β} {l : List α} {a b c : β} {t : List β} (h : l.map f = a :: b :: c :: t) : ∃ x0 x1 x2 xs, l = x0 :: x1 :: x2 :: xs ∧ f x0 = a := by
  match l, h with
  | x :: y :: z :: t, h => exact ⟨x, y, z, t, rfl, by simp at h; exact h.1⟩
theorem parse_case (r : Option Nat) : (r = none ∧ parseV r = .tuple #[.int .u32 0, .int .i64 2]) ∨ ∃ a : Nat, r = some a ∧ parseV r = .tuple #[.int .u32 a, .int .i64 0] := by
  cases r with
  | none => exact .inl ⟨rfl, rfl⟩
  | some a => exact .inr ⟨a, rfl, rfl⟩

set_option maxHeartbeats 2000000 in
theorem rpref_any (s : ByteArray) (hs : s.size ≤ 4294967295) (w : World) :
    Calls Tryd.prog 8 #[.string s] w fun e w' => e = .returned (prefV (prefL s.data.toList)) ∧ Below w.heap.size w w' := by
  have hsp := fun W => (show Calls Tryd.prog 16 #[.string s, .int .u8 47] W _ from split_any s 47 hs W)
  have hps := fun (b : ByteArray) (hb : b.size ≤ s.size) W => rparse_any b (by omega) W
  rw [pref_parts]
  have HS := Lib.hid hsp
  have HP := Lib.hid hps
  clear hsp hps
  have hb0 := Lib.hid (bnew w (.cells #[.int .u32 0, .int .i64 0] 24))
  have HR0 := Lib.hid (heap_alloc_new w (.cells #[.int .u32 0, .int .i64 0] 24))
  match hps : parts 47 s.data.toList with
  | [] => exact absurd hps (parts_ne _ _)
  | [p0] =>
    rw [hps] at HS
    clear hps
    have HP0 : Hid (∀ (b : ByteArray) (hb : b.size ≤ s.size) (hq : b.data.toList = p0) (W : World), Calls Tryd.prog 6 #[.string b] W fun e w' => e = .returned (parseV (parseL p0)) ∧ Below W.heap.size W w') := fun b hb hq W => hq ▸ HP.out b hb W
    clear HP
    rcases parse_case (parseL p0) with ⟨hr, hv⟩ | ⟨a, hr, hv⟩
    · rw [hv] at HP0
      rw [show prefR [p0] = none by simp [prefR, hr]]
      clear hr hv
      have key : Calls Tryd.prog 8 #[.string s] w fun e w' => e = .returned (.tuple #[.agg #[.int .u32 0, .int .i64 0], .int .i64 2]) ∧ Below w.heap.size w w' := by
        go_enter Tryd.func8, Tryd.ntmps8
        go_wp2_with (first
          | (go_at_call 16; refine (HS.out _).mono ?_; rintro e w1 ⟨v, bs, rfl, hp, hm, ho, hb⟩; have HM := Lib.hid hm; have HO := Lib.hid ho; have HB1 := Lib.hid (bstep hb0.out hb hb0.out.size); have HR1 := row_step HR0 hb; clear hm ho hb; obtain ⟨b0, rfl, q0⟩ := one_map hp; clear hp; obtain ⟨g, cap, rfl, hcap, hcl⟩ := own_four HO.out (by simp); simp only [List.length_cons, List.length_nil] at hcap hcl; have c0 := hcl 0 (by simp); clear hcl; simp only [List.map_cons, List.map_nil] at c0; have Q0 := Lib.hid q0; clear q0; skip)
          | (go_at_call 6; refine (HP0.out b0 (HM.out b0 (by simp)) Q0.out _).mono ?_; rintro e w2 ⟨rfl, hb2⟩; have HB2 := Lib.hid (bstep HB1.out hb2 HB1.out.size); have HR2 := row_step HR1 hb2; clear hb2; obtain ⟨d0, d1, d2, d3⟩ := box2 HR2.out))
        have hr := set_at (k := 1) (v := .int .i64 0) (set_at (k := 0) (v := .int .u32 0) HR2.out)
        exact box_ret hr rfl rfl rfl Tryd.underlying24 (by kernel_rfl) rfl ⟨rfl, set_b (set_b HB2.out (Nat.le_refl _)) (Nat.le_refl _)⟩
      exact key
    · rw [hv] at HP0
      rw [show prefR [p0] = some ⟨a, 32⟩ by simp [prefR, hr]]
      clear hr hv
      have key : Calls Tryd.prog 8 #[.string s] w fun e w' => e = .returned (.tuple #[.agg #[.int .u32 (a : Nat), .int .i64 32], .int .i64 0]) ∧ Below w.heap.size w w' := by
        go_enter Tryd.func8, Tryd.ntmps8
        go_wp2_with (first
          | (go_at_call 16; refine (HS.out _).mono ?_; rintro e w1 ⟨v, bs, rfl, hp, hm, ho, hb⟩; have HM := Lib.hid hm; have HO := Lib.hid ho; have HB1 := Lib.hid (bstep hb0.out hb hb0.out.size); have HR1 := row_step HR0 hb; clear hm ho hb; obtain ⟨b0, rfl, q0⟩ := one_map hp; clear hp; obtain ⟨g, cap, rfl, hcap, hcl⟩ := own_four HO.out (by simp); simp only [List.length_cons, List.length_nil] at hcap hcl; have c0 := hcl 0 (by simp); clear hcl; simp only [List.map_cons, List.map_nil] at c0; have Q0 := Lib.hid q0; clear q0; skip)
          | (go_at_call 6; refine (HP0.out b0 (HM.out b0 (by simp)) Q0.out _).mono ?_; rintro e w2 ⟨rfl, hb2⟩; have HB2 := Lib.hid (bstep HB1.out hb2 HB1.out.size); have HR2 := row_step HR1 hb2; clear hb2; obtain ⟨d0, d1, d2, d3⟩ := box2 HR2.out))
        have hr := set_at (k := 1) (v := .int .i64 32) (set_at (k := 0) (v := .int .u32 (a : Nat)) HR2.out)
        exact box_ret hr rfl rfl rfl Tryd.underlying24 (by kernel_rfl) rfl ⟨rfl, set_b (set_b HB2.out (Nat.le_refl _)) (Nat.le_refl _)⟩
      exact key
  | [p0, p1] =>
    rw [hps] at HS
    clear hps
    have HP0 : Hid (∀ (b : ByteArray) (hb : b.size ≤ s.size) (hq : b.data.toList = p0) (W : World), Calls Tryd.prog 6 #[.string b] W fun e w' => e = .returned (parseV (parseL p0)) ∧ Below W.heap.size W w') := fun b hb hq W => hq ▸ HP.out b hb W
    clear HP
    cases hk : okM 32 p1 with
    | true =>
      have HNG : Hid (∀ (b : ByteArray) (hb : b.size ≤ s.size) (hq : b.data.toList = p1) (W : World), Calls Tryd.prog 17 #[.string b, .int .i64 32] W fun e w' => e = .returned (.tuple #[.int .i64 (dv p1 : Nat), .bool true]) ∧ w' = W) := fun b hb hq W => (numQ b (by omega) 32 (by decide) W).mono fun e w' hh => ⟨(hh.1 (by rw [hq]; exact hk)).trans (by rw [hq]), hh.2.2⟩
      rcases parse_case (parseL p0) with ⟨hr, hv⟩ | ⟨a, hr, hv⟩
      · rw [hv] at HP0
        rw [show prefR [p0, p1] = none by simp [prefR, hr, hk]]
        clear hr hv
        have key : Calls Tryd.prog 8 #[.string s] w fun e w' => e = .returned (.tuple #[.agg #[.int .u32 0, .int .i64 0], .int .i64 2]) ∧ Below w.heap.size w w' := by
          go_enter Tryd.func8, Tryd.ntmps8
          go_wp2_with (first
            | (go_at_call 16; refine (HS.out _).mono ?_; rintro e w1 ⟨v, bs, rfl, hp, hm, ho, hb⟩; have HM := Lib.hid hm; have HO := Lib.hid ho; have HB1 := Lib.hid (bstep hb0.out hb hb0.out.size); have HR1 := row_step HR0 hb; clear hm ho hb; obtain ⟨b0, b1, rfl, q0, q1⟩ := two_map hp; clear hp; obtain ⟨g, cap, rfl, hcap, hcl⟩ := own_four HO.out (by simp); simp only [List.length_cons, List.length_nil] at hcap hcl; have c0 := hcl 0 (by simp); have c1 := hcl 1 (by simp); clear hcl; simp only [List.map_cons, List.map_nil] at c0 c1; have Q0 := Lib.hid q0; clear q0; have Q1 := Lib.hid q1; clear q1; skip)
            | (go_at_call 17; refine (HNG.out b1 (HM.out b1 (by simp)) Q1.out _).mono ?_; rintro e w3 ⟨rfl, rfl⟩)
            | (go_at_call 6; refine (HP0.out b0 (HM.out b0 (by simp)) Q0.out _).mono ?_; rintro e w2 ⟨rfl, hb2⟩; have HB2 := Lib.hid (bstep HB1.out hb2 HB1.out.size); have HR2 := row_step HR1 hb2; clear hb2; obtain ⟨d0, d1, d2, d3⟩ := box2 HR2.out))
          have hr := set_at (k := 1) (v := .int .i64 0) (set_at (k := 0) (v := .int .u32 0) HR2.out)
          exact box_ret hr rfl rfl rfl Tryd.underlying24 (by kernel_rfl) rfl ⟨rfl, set_b (set_b HB2.out (Nat.le_refl _)) (Nat.le_refl _)⟩
        exact key
      · rw [hv] at HP0
        rw [show prefR [p0, p1] = some ⟨a, (dv p1 : Nat)⟩ by simp [prefR, hr, hk]]
        clear hr hv
        have key : Calls Tryd.prog 8 #[.string s] w fun e w' => e = .returned (.tuple #[.agg #[.int .u32 (a : Nat), .int .i64 (dv p1 : Nat)], .int .i64 0]) ∧ Below w.heap.size w w' := by
          go_enter Tryd.func8, Tryd.ntmps8
          go_wp2_with (first
            | (go_at_call 16; refine (HS.out _).mono ?_; rintro e w1 ⟨v, bs, rfl, hp, hm, ho, hb⟩; have HM := Lib.hid hm; have HO := Lib.hid ho; have HB1 := Lib.hid (bstep hb0.out hb hb0.out.size); have HR1 := row_step HR0 hb; clear hm ho hb; obtain ⟨b0, b1, rfl, q0, q1⟩ := two_map hp; clear hp; obtain ⟨g, cap, rfl, hcap, hcl⟩ := own_four HO.out (by simp); simp only [List.length_cons, List.length_nil] at hcap hcl; have c0 := hcl 0 (by simp); have c1 := hcl 1 (by simp); clear hcl; simp only [List.map_cons, List.map_nil] at c0 c1; have Q0 := Lib.hid q0; clear q0; have Q1 := Lib.hid q1; clear q1; skip)
            | (go_at_call 17; refine (HNG.out b1 (HM.out b1 (by simp)) Q1.out _).mono ?_; rintro e w3 ⟨rfl, rfl⟩)
            | (go_at_call 6; refine (HP0.out b0 (HM.out b0 (by simp)) Q0.out _).mono ?_; rintro e w2 ⟨rfl, hb2⟩; have HB2 := Lib.hid (bstep HB1.out hb2 HB1.out.size); have HR2 := row_step HR1 hb2; clear hb2; obtain ⟨d0, d1, d2, d3⟩ := box2 HR2.out))
          have hr := set_at (k := 1) (v := .int .i64 (dv p1 : Nat)) (set_at (k := 0) (v := .int .u32 (a : Nat)) HR2.out)
          exact box_ret hr rfl rfl rfl Tryd.underlying24 (by kernel_rfl) rfl ⟨rfl, set_b (set_b HB2.out (Nat.le_refl _)) (Nat.le_refl _)⟩
        exact key
    | false =>
      have HNB : Hid (∀ (b : ByteArray) (hb : b.size ≤ s.size) (hq : b.data.toList = p1) (W : World), Calls Tryd.prog 17 #[.string b, .int .i64 32] W fun e w' => (∃ n : Int, e = .returned (.tuple #[.int .i64 n, .bool false])) ∧ w' = W) := fun b hb hq W => (numQ b (by omega) 32 (by decide) W).mono fun e w' hh => ⟨hh.2.1 (by rw [hq]; exact hk), hh.2.2⟩
      rcases parse_case (parseL p0) with ⟨hr, hv⟩ | ⟨a, hr, hv⟩
      · rw [hv] at HP0
        rw [show prefR [p0, p1] = none by simp [prefR, hr, hk]]
        clear hr hv
        have key : Calls Tryd.prog 8 #[.string s] w fun e w' => e = .returned (.tuple #[.agg #[.int .u32 0, .int .i64 0], .int .i64 2]) ∧ Below w.heap.size w w' := by
          go_enter Tryd.func8, Tryd.ntmps8
          go_wp2_with (first
            | (go_at_call 16; refine (HS.out _).mono ?_; rintro e w1 ⟨v, bs, rfl, hp, hm, ho, hb⟩; have HM := Lib.hid hm; have HO := Lib.hid ho; have HB1 := Lib.hid (bstep hb0.out hb hb0.out.size); have HR1 := row_step HR0 hb; clear hm ho hb; obtain ⟨b0, b1, rfl, q0, q1⟩ := two_map hp; clear hp; obtain ⟨g, cap, rfl, hcap, hcl⟩ := own_four HO.out (by simp); simp only [List.length_cons, List.length_nil] at hcap hcl; have c0 := hcl 0 (by simp); have c1 := hcl 1 (by simp); clear hcl; simp only [List.map_cons, List.map_nil] at c0 c1; have Q0 := Lib.hid q0; clear q0; have Q1 := Lib.hid q1; clear q1; skip)
            | (go_at_call 17; refine (HNB.out b1 (HM.out b1 (by simp)) Q1.out _).mono ?_; rintro e w3 ⟨⟨n, rfl⟩, rfl⟩)
            | (go_at_call 6; refine (HP0.out b0 (HM.out b0 (by simp)) Q0.out _).mono ?_; rintro e w2 ⟨rfl, hb2⟩; have HB2 := Lib.hid (bstep HB1.out hb2 HB1.out.size); have HR2 := row_step HR1 hb2; clear hb2; obtain ⟨d0, d1, d2, d3⟩ := box2 HR2.out))
          have hr := set_at (k := 1) (v := .int .i64 0) (set_at (k := 0) (v := .int .u32 0) HR2.out)
          exact box_ret hr rfl rfl rfl Tryd.underlying24 (by kernel_rfl) rfl ⟨rfl, set_b (set_b HB2.out (Nat.le_refl _)) (Nat.le_refl _)⟩
        exact key
      · rw [hv] at HP0
        rw [show prefR [p0, p1] = none by simp [prefR, hr, hk]]
        clear hr hv
        have key : Calls Tryd.prog 8 #[.string s] w fun e w' => e = .returned (.tuple #[.agg #[.int .u32 0, .int .i64 0], .int .i64 2]) ∧ Below w.heap.size w w' := by
          go_enter Tryd.func8, Tryd.ntmps8
          go_wp2_with (first
            | (go_at_call 16; refine (HS.out _).mono ?_; rintro e w1 ⟨v, bs, rfl, hp, hm, ho, hb⟩; have HM := Lib.hid hm; have HO := Lib.hid ho; have HB1 := Lib.hid (bstep hb0.out hb hb0.out.size); have HR1 := row_step HR0 hb; clear hm ho hb; obtain ⟨b0, b1, rfl, q0, q1⟩ := two_map hp; clear hp; obtain ⟨g, cap, rfl, hcap, hcl⟩ := own_four HO.out (by simp); simp only [List.length_cons, List.length_nil] at hcap hcl; have c0 := hcl 0 (by simp); have c1 := hcl 1 (by simp); clear hcl; simp only [List.map_cons, List.map_nil] at c0 c1; have Q0 := Lib.hid q0; clear q0; have Q1 := Lib.hid q1; clear q1; skip)
            | (go_at_call 17; refine (HNB.out b1 (HM.out b1 (by simp)) Q1.out _).mono ?_; rintro e w3 ⟨⟨n, rfl⟩, rfl⟩)
            | (go_at_call 6; refine (HP0.out b0 (HM.out b0 (by simp)) Q0.out _).mono ?_; rintro e w2 ⟨rfl, hb2⟩; have HB2 := Lib.hid (bstep HB1.out hb2 HB1.out.size); have HR2 := row_step HR1 hb2; clear hb2; obtain ⟨d0, d1, d2, d3⟩ := box2 HR2.out))
          have hr := set_at (k := 1) (v := .int .i64 0) (set_at (k := 0) (v := .int .u32 0) HR2.out)
          exact box_ret hr rfl rfl rfl Tryd.underlying24 (by kernel_rfl) rfl ⟨rfl, set_b (set_b HB2.out (Nat.le_refl _)) (Nat.le_refl _)⟩
        exact key
  | p0 :: p1 :: p2 :: ps =>
    rw [hps] at HS
    clear hps
    have HP0 : Hid (∀ (b : ByteArray) (hb : b.size ≤ s.size) (hq : b.data.toList = p0) (W : World), Calls Tryd.prog 6 #[.string b] W fun e w' => e = .returned (parseV (parseL p0)) ∧ Below W.heap.size W w') := fun b hb hq W => hq ▸ HP.out b hb W
    clear HP
    rcases parse_case (parseL p0) with ⟨hr, hv⟩ | ⟨a, hr, hv⟩
    · rw [hv] at HP0
      rw [show prefR (p0 :: p1 :: p2 :: ps) = none by simp [prefR, hr]]
      clear hr hv
      have key : Calls Tryd.prog 8 #[.string s] w fun e w' => e = .returned (.tuple #[.agg #[.int .u32 0, .int .i64 0], .int .i64 2]) ∧ Below w.heap.size w w' := by
        go_enter Tryd.func8, Tryd.ntmps8
        go_wp2_with (first
          | (go_at_call 16; refine (HS.out _).mono ?_; rintro e w1 ⟨v, bs, rfl, hp, hm, ho, hb⟩; have HM := Lib.hid hm; have HO := Lib.hid ho; have HB1 := Lib.hid (bstep hb0.out hb hb0.out.size); have HR1 := row_step HR0 hb; clear hm ho hb; obtain ⟨b0, b1, b2, bs, rfl, q0⟩ := more_map hp; clear hp; obtain ⟨g, cap, rfl, hcap, hcl⟩ := own_four HO.out (by simp); simp only [List.length_cons, List.length_nil] at hcap hcl; have c0 := hcl 0 (by simp); clear hcl; simp only [List.map_cons, List.map_nil] at c0; have Q0 := Lib.hid q0; clear q0; have hbl : (2 : Int) < bs.length + 1 + 1 + 1 := (by omega); have hbe : ((bs.length : Int) + 1 + 1 + 1 == 2) = false := beq_eq_false_iff_ne.2 (by omega); skip)
          | (go_at_call 6; refine (HP0.out b0 (HM.out b0 (by simp)) Q0.out _).mono ?_; rintro e w2 ⟨rfl, hb2⟩; have HB2 := Lib.hid (bstep HB1.out hb2 HB1.out.size); have HR2 := row_step HR1 hb2; clear hb2; obtain ⟨d0, d1, d2, d3⟩ := box2 HR2.out))
        have hr := set_at (k := 1) (v := .int .i64 0) (set_at (k := 0) (v := .int .u32 0) HR2.out)
        exact box_ret hr rfl rfl rfl Tryd.underlying24 (by kernel_rfl) rfl ⟨rfl, set_b (set_b HB2.out (Nat.le_refl _)) (Nat.le_refl _)⟩
      exact key
    · rw [hv] at HP0
      rw [show prefR (p0 :: p1 :: p2 :: ps) = none by simp [prefR, hr]]
      clear hr hv
      have key : Calls Tryd.prog 8 #[.string s] w fun e w' => e = .returned (.tuple #[.agg #[.int .u32 0, .int .i64 0], .int .i64 2]) ∧ Below w.heap.size w w' := by
        go_enter Tryd.func8, Tryd.ntmps8
        go_wp2_with (first
          | (go_at_call 16; refine (HS.out _).mono ?_; rintro e w1 ⟨v, bs, rfl, hp, hm, ho, hb⟩; have HM := Lib.hid hm; have HO := Lib.hid ho; have HB1 := Lib.hid (bstep hb0.out hb hb0.out.size); have HR1 := row_step HR0 hb; clear hm ho hb; obtain ⟨b0, b1, b2, bs, rfl, q0⟩ := more_map hp; clear hp; obtain ⟨g, cap, rfl, hcap, hcl⟩ := own_four HO.out (by simp); simp only [List.length_cons, List.length_nil] at hcap hcl; have c0 := hcl 0 (by simp); clear hcl; simp only [List.map_cons, List.map_nil] at c0; have Q0 := Lib.hid q0; clear q0; have hbl : (2 : Int) < bs.length + 1 + 1 + 1 := (by omega); have hbe : ((bs.length : Int) + 1 + 1 + 1 == 2) = false := beq_eq_false_iff_ne.2 (by omega); skip)
          | (go_at_call 6; refine (HP0.out b0 (HM.out b0 (by simp)) Q0.out _).mono ?_; rintro e w2 ⟨rfl, hb2⟩; have HB2 := Lib.hid (bstep HB1.out hb2 HB1.out.size); have HR2 := row_step HR1 hb2; clear hb2; obtain ⟨d0, d1, d2, d3⟩ := box2 HR2.out))
        have hr := set_at (k := 1) (v := .int .i64 0) (set_at (k := 0) (v := .int .u32 0) HR2.out)
        exact box_ret hr rfl rfl rfl Tryd.underlying24 (by kernel_rfl) rfl ⟨rfl, set_b (set_b HB2.out (Nat.le_refl _)) (Nat.le_refl _)⟩
      exact key
end Go.Proofs.YtefhoecdoemgbaaDoor.St9
