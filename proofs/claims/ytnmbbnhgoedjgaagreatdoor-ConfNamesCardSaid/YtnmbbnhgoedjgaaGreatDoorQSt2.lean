/- addr.Parse: four numbers between dots as an address. -/
import Derived.Test.YtnmbbnhgoedjgaaGreatDoorQSt1
import Derived.OwnWalk
import Derived.LoopTactic
import Derived.Lib.SmallJoins
namespace Go.Proofs.YtnmbbnhgoedjgaaGreatDoor.St2
open Go Go.RowKit Go.Proofs.YtnmbbnhgoedjgaaGreatDoor.Ad1 Go.Proofs.YtnmbbnhgoedjgaaGreatDoor.St0 Go.Proofs.YtnmbbnhgoedjgaaGreatDoor.St1
set_option linter.unusedVariables false
set_option linter.unusedSimpArgs false
/-- What the library's text reads of its own variables. -/
structure LibOK (W : World) : Prop where
  maxLen : ∃ m, W.cell? ⟨0, 0, none⟩ = some (.int .i64 m)
  pow10 : Lib.TabIs Tryz.prog W "internal/strconv.uint64pow10" .u64 Lib.pow10Tab
theorem gPow : Tryz.prog.globalNamed "internal/strconv.uint64pow10" = some 3 := by kernel_rfl
theorem LibOK.below {W W1 : World} (h : LibOK W) (hb : Below W.heap.size W W1) : LibOK W1 where
  maxLen := by
    obtain ⟨m, hm⟩ := h.maxLen
    exact ⟨m, (hb.cell (World.block_lt_of_cell? W _ hm)).trans hm⟩
  pow10 := Joins.tab_stays gPow h.pow10 hb (Nat.le_refl _)
def num4 (ps : List (List UInt8)) : Option Nat := match ps with
  | [a, b, c, d] => if okNum 3 a && decide (dv a ≤ 255) then if okNum 3 b && decide (dv b ≤ 255) then if okNum 3 c && decide (dv c ≤ 255) then if okNum 3 d && decide (dv d ≤ 255) then
      some (((dv a * 256 + dv b) * 256 + dv c) * 256 + dv d) else none else none else none else none
  | _ => none
def parseL (l : List UInt8) : Option Nat := num4 (parts 46 l)
/-- (0, ErrForm), or (it, OK). -/
def parseV (r : Option Nat) : Value := match r with
  | some a => .tuple #[.int .u32 (a : Nat), .int .i64 0]
  | none => .tuple #[.int .u32 0, .int .i64 2]
theorem or_byte (a n : Nat) (ha : a < 16777216) (hn : n ≤ 255) : bits .or .u32 (((a : Int) * 256) % 4294967296) (((n : Int)) % 4294967296) = ((a * 256 + n : Nat) : Int) := by
  have e1 : (((a : Int) * 256) % 4294967296) = ((a * 256 : Nat) : Int) := by omega
  have e2 : (((n : Int)) % 4294967296) = ((n : Nat) : Int) := by omega
  rw [e1, e2, u32_or_nat _ _ (by omega) (by omega)]
  congr 1
  have := Nat.shiftLeft_add_eq_or_of_lt (show n < 2 ^ 8 by omega) a
  rw [Nat.shiftLeft_eq] at this
  exact this.symm
/-- The accumulated address behind the first j parts. -/
def accF (ps : List (List UInt8)) (j : Nat) : Nat := (ps.take j).foldl (fun a p => a * 256 + dv p) 0
def okP (p : List UInt8) : Bool := okNum 3 p && decide (dv p ≤ 255)
theorem num4_ok (a b c d : List UInt8) (h0 : okP a = true) (h1 : okP b = true) (h2 : okP c = true) (h3 : okP d = true) : num4 [a, b, c, d] = some (accF [a, b, c, d] 4) := by
  unfold okP at *
  simp only [num4, h0, h1, h2, h3, if_true]
  simp [accF]
theorem num4_bad (a b c d : List UInt8) (h : okP a = false ∨ okP b = false ∨ okP c = false ∨ okP d = false) : num4 [a, b, c, d] = none := by
  unfold okP at *
  simp only [num4]
  rcases h with h | h | h | h <;> (simp only [h]; repeat' split) <;> simp_all
theorem okP_le {p : List UInt8} (h : okP p = true) : dv p ≤ 255 := by unfold okP at h; simp at h; exact h.2
theorem blk_lt' {w : World} {g : Nat} {o : Obj} (h : w.heap[g]? = some o) : g < w.heap.size := (Array.getElem?_eq_some_iff.1 h).1
theorem accF_lt (ps : List (List UInt8)) : ∀ j, (∀ k, k < j → okP (ps.getD k []) = true) → accF ps j < 256 ^ j
  | 0, _ => by simp [accF]
  | j + 1, h => by
    have ih := accF_lt ps j (fun k hk => h k (by omega))
    have hj := okP_le (h j (by omega))
    have e : accF ps (j + 1) ≤ accF ps j * 256 + dv (ps.getD j []) := by
      unfold accF
      rcases Nat.lt_or_ge j ps.length with hl | hl
      · rw [List.take_succ_eq_append_getElem hl, List.foldl_append]
        simp [List.getD_eq_getElem?_getD, hl]
      · rw [List.take_of_length_le (by omega), List.take_of_length_le hl]
        omega
    rw [Nat.pow_succ]
    omega
theorem okstep {ps : List (List UInt8)} {j k : Nat} (hok : ∀ k, k < j → okP (ps.getD k []) = true) (hk : okP (ps.getD j []) = true) (h : k < j + 1) : okP (ps.getD k []) = true := by
  rcases Nat.lt_or_ge k j with h1 | h1
  · exact hok k h1
  · obtain rfl : k = j := by omega
    exact hk
/-- What number answers at 255, in its three ways. -/
theorem number_P (b : ByteArray) (hb : b.size ≤ 9223372036854775807) (W : World) : Calls Tryz.prog 146 #[.string b, .int .i64 255] W fun e w' => (okP b.data.toList = true → e = .returned (.tuple #[.int .i64 (dv b.data.toList : Nat), .bool true])) ∧
    (okP b.data.toList = false → ∃ n : Int, e = .returned (.tuple #[.int .i64 n, .bool false])) ∧ Below W.heap.size W w' := by
  by_cases h : okNum 3 b.data.toList = true
  · refine (number_ok b 255 (by decide) W h).mono ?_
    rintro e w' ⟨rfl, hb⟩
    refine ⟨fun ho => ?_, fun ho => ⟨(dv b.data.toList : Nat), ?_⟩, hb⟩
    · have := okP_le ho
      simp [this]
    · unfold okP at ho
      rw [h] at ho
      simp only [Bool.true_and] at ho
      rw [ho]
  · simp only [Bool.not_eq_true] at h
    refine (number_bad b hb 255 W h).mono ?_
    rintro e w' ⟨rfl, hb⟩
    exact ⟨fun ho => (by unfold okP at ho; rw [h] at ho; cases ho), fun _ => ⟨0, rfl⟩, hb⟩
set_option maxHeartbeats 2000000 in
theorem parse_any (s : ByteArray) (hs : s.size < 4294967281) (w : World) (hl : LibOK w) :
    Calls Tryz.prog 147 #[.string s] w fun e w' => e = .returned (parseV (parseL s.data.toList)) ∧ Below w.heap.size w w' := by
  obtain ⟨m, hm⟩ := hl.maxLen
  have hsp := Tryz.strings_Split s ⟨#[46]⟩ m w hs hm (by decide)
  have hp := split_parts 46 s
  have hlen : (Lib.splitB ⟨#[46]⟩ 0 (Lib.countB s ⟨#[46]⟩) s).length = Lib.countB s ⟨#[46]⟩ + 1 := Lib.splitB_all ⟨#[46]⟩ (by decide) 0 _ s rfl
  have hmx : ∀ x ∈ Lib.splitB ⟨#[46]⟩ 0 (Lib.countB s ⟨#[46]⟩) s, x.size ≤ s.size := split_le s
  generalize Lib.splitB ⟨#[46]⟩ 0 (Lib.countB s ⟨#[46]⟩) s = bs at hsp hp hlen hmx
  rw [← hlen] at hsp
  unfold parseL
  rw [← hp]
  clear hlen hm hp
  have HS := Lib.hid hsp
  clear hsp
  by_cases h4 : bs.length = 4
  · match bs, h4 with
    | [b0, b1, b2, b3], _ =>
      go_enter Tryz.func147, Tryz.ntmps147
      go_wp2_with (go_at_call 24; refine HS.out.mono ?_; rintro e w1 ⟨rfl, hw1⟩; have HB := Lib.hid (show Below w.heap.size w w1 by rw [hw1]; exact bnew _ _); have HC := Lib.hid (show w1.heap[w.heap.size]? = some (.cells #[.string b0, .string b1, .string b2, .string b3] 9 (0, 0)) by rw [hw1]; exact heap_alloc_new w _); clear hw1)
      go_loopw [5, 17] (fun a i wr => ∃ j : Nat, j ≤ 4 ∧ i = .int .i64 j ∧ (∀ k, k < j → okP ([b0.data.toList, b1.data.toList, b2.data.toList, b3.data.toList].getD k []) = true) ∧ a = .int .u32 (accF [b0.data.toList, b1.data.toList, b2.data.toList, b3.data.toList] j : Nat) ∧ Below w.heap.size w wr ∧ wr.heap[w.heap.size]? = some (.cells #[.string b0, .string b1, .string b2, .string b3] 9 (0, 0))) (fun _ i _ => (4 - intOf i).toNat)
      case atStart => exact ⟨0, by omega, rfl, fun k hk => absurd hk (by omega), rfl, HB.out, HC.out⟩
      case round =>
        obtain ⟨j, hj, rfl, hok, rfl, hbl, hcl⟩ := hrel
        have HBr := Lib.hid hbl
        have HCr := Lib.hid hcl
        have c0 : wr.cell? ⟨w.heap.size, 0, none⟩ = some (.string b0) := (cell_of_row _ _ 0 _ _ _ hcl).trans rfl
        have c1 : wr.cell? ⟨w.heap.size, 1, none⟩ = some (.string b1) := (cell_of_row _ _ 1 _ _ _ hcl).trans rfl
        have c2 : wr.cell? ⟨w.heap.size, 2, none⟩ = some (.string b2) := (cell_of_row _ _ 2 _ _ _ hcl).trans rfl
        have c3 : wr.cell? ⟨w.heap.size, 3, none⟩ = some (.string b3) := (cell_of_row _ _ 3 _ _ _ hcl).trans rfl
        clear hbl hcl
        match j, hj with
        | 0, _ =>
          have hN := number_P b0 (by have := hmx b0 (by simp); omega) wr
          cases hk : okP b0.data.toList with
          | true =>
            have hN' := hN.mono (R' := fun e w' => e = .returned (.tuple #[.int .i64 (dv b0.data.toList : Nat), .bool true]) ∧ Below wr.heap.size wr w') fun e w' hh => ⟨hh.1 hk, hh.2.2⟩
            have hac := accF_lt [b0.data.toList, b1.data.toList, b2.data.toList, b3.data.toList] 0 (fun k hk => hok k hk)
            have hdv := okP_le hk
            have hor := or_byte (accF [b0.data.toList, b1.data.toList, b2.data.toList, b3.data.toList] 0) (dv b0.data.toList) (by simp [accF]) hdv
            have hnx : accF [b0.data.toList, b1.data.toList, b2.data.toList, b3.data.toList] 0 * 256 + dv b0.data.toList = accF [b0.data.toList, b1.data.toList, b2.data.toList, b3.data.toList] 1 := by simp [accF]
            rw [hnx] at hor
            have HOR := Lib.hid hor
            have HN := Lib.hid hN'
            clear hN hN' hor hnx hac hdv
            go_wp2_with (go_at_call 146; refine HN.out.mono ?_; rintro e w2 ⟨rfl, hb2⟩; have HB2 := Lib.hid (bstep HBr.out hb2 HBr.out.size); have HC2 := Lib.hid ((hb2.block w.heap.size (blk_lt' HCr.out)).trans HCr.out); clear hb2)
            go_roundw
            case rel => exact ⟨1, by omega, rfl, fun k hk' => okstep hok hk hk', by rw [HOR.out], HB2.out, HC2.out⟩
            case measure => simp [intOf]
          | false =>
            have hN' := hN.mono (R' := fun e w' => (∃ n : Int, e = .returned (.tuple #[.int .i64 n, .bool false])) ∧ Below wr.heap.size wr w') fun e w' hh => ⟨hh.2.1 hk, hh.2.2⟩
            have hb := num4_bad b0.data.toList b1.data.toList b2.data.toList b3.data.toList (by exact .inl hk)
            have HN := Lib.hid hN'
            have HBAD := Lib.hid hb
            clear hN hN' hb
            go_wp2_with (go_at_call 146; refine HN.out.mono ?_; rintro e w2 ⟨⟨n, rfl⟩, hb2⟩; have HB2 := Lib.hid (bstep HBr.out hb2 HBr.out.size); clear hb2)
            go_ret2
            exact ⟨by simp only [List.map_cons, List.map_nil, HBAD.out]; rfl, HB2.out⟩
        | 1, _ =>
          have hN := number_P b1 (by have := hmx b1 (by simp); omega) wr
          cases hk : okP b1.data.toList with
          | true =>
            have hN' := hN.mono (R' := fun e w' => e = .returned (.tuple #[.int .i64 (dv b1.data.toList : Nat), .bool true]) ∧ Below wr.heap.size wr w') fun e w' hh => ⟨hh.1 hk, hh.2.2⟩
            have hac := accF_lt [b0.data.toList, b1.data.toList, b2.data.toList, b3.data.toList] 1 (fun k hk => hok k hk)
            have hdv := okP_le hk
            have hor := or_byte (accF [b0.data.toList, b1.data.toList, b2.data.toList, b3.data.toList] 1) (dv b1.data.toList) (by omega) hdv
            have hnx : accF [b0.data.toList, b1.data.toList, b2.data.toList, b3.data.toList] 1 * 256 + dv b1.data.toList = accF [b0.data.toList, b1.data.toList, b2.data.toList, b3.data.toList] 2 := by simp [accF]
            rw [hnx] at hor
            have HOR := Lib.hid hor
            have HN := Lib.hid hN'
            clear hN hN' hor hnx hac hdv
            go_wp2_with (go_at_call 146; refine HN.out.mono ?_; rintro e w2 ⟨rfl, hb2⟩; have HB2 := Lib.hid (bstep HBr.out hb2 HBr.out.size); have HC2 := Lib.hid ((hb2.block w.heap.size (blk_lt' HCr.out)).trans HCr.out); clear hb2)
            go_roundw
            case rel => exact ⟨2, by omega, rfl, fun k hk' => okstep hok hk hk', by rw [HOR.out], HB2.out, HC2.out⟩
            case measure => simp [intOf]
          | false =>
            have hN' := hN.mono (R' := fun e w' => (∃ n : Int, e = .returned (.tuple #[.int .i64 n, .bool false])) ∧ Below wr.heap.size wr w') fun e w' hh => ⟨hh.2.1 hk, hh.2.2⟩
            have hb := num4_bad b0.data.toList b1.data.toList b2.data.toList b3.data.toList (by exact .inr (.inl hk))
            have HN := Lib.hid hN'
            have HBAD := Lib.hid hb
            clear hN hN' hb
            go_wp2_with (go_at_call 146; refine HN.out.mono ?_; rintro e w2 ⟨⟨n, rfl⟩, hb2⟩; have HB2 := Lib.hid (bstep HBr.out hb2 HBr.out.size); clear hb2)
            go_ret2
            exact ⟨by simp only [List.map_cons, List.map_nil, HBAD.out]; rfl, HB2.out⟩
        | 2, _ =>
          have hN := number_P b2 (by have := hmx b2 (by simp); omega) wr
          cases hk : okP b2.data.toList with
          | true =>
            have hN' := hN.mono (R' := fun e w' => e = .returned (.tuple #[.int .i64 (dv b2.data.toList : Nat), .bool true]) ∧ Below wr.heap.size wr w') fun e w' hh => ⟨hh.1 hk, hh.2.2⟩
            have hac := accF_lt [b0.data.toList, b1.data.toList, b2.data.toList, b3.data.toList] 2 (fun k hk => hok k hk)
            have hdv := okP_le hk
            have hor := or_byte (accF [b0.data.toList, b1.data.toList, b2.data.toList, b3.data.toList] 2) (dv b2.data.toList) (by omega) hdv
            have hnx : accF [b0.data.toList, b1.data.toList, b2.data.toList, b3.data.toList] 2 * 256 + dv b2.data.toList = accF [b0.data.toList, b1.data.toList, b2.data.toList, b3.data.toList] 3 := by simp [accF]
            rw [hnx] at hor
            have HOR := Lib.hid hor
            have HN := Lib.hid hN'
            clear hN hN' hor hnx hac hdv
            go_wp2_with (go_at_call 146; refine HN.out.mono ?_; rintro e w2 ⟨rfl, hb2⟩; have HB2 := Lib.hid (bstep HBr.out hb2 HBr.out.size); have HC2 := Lib.hid ((hb2.block w.heap.size (blk_lt' HCr.out)).trans HCr.out); clear hb2)
            go_roundw
            case rel => exact ⟨3, by omega, rfl, fun k hk' => okstep hok hk hk', by rw [HOR.out], HB2.out, HC2.out⟩
            case measure => simp [intOf]
          | false =>
            have hN' := hN.mono (R' := fun e w' => (∃ n : Int, e = .returned (.tuple #[.int .i64 n, .bool false])) ∧ Below wr.heap.size wr w') fun e w' hh => ⟨hh.2.1 hk, hh.2.2⟩
            have hb := num4_bad b0.data.toList b1.data.toList b2.data.toList b3.data.toList (by exact .inr (.inr (.inl hk)))
            have HN := Lib.hid hN'
            have HBAD := Lib.hid hb
            clear hN hN' hb
            go_wp2_with (go_at_call 146; refine HN.out.mono ?_; rintro e w2 ⟨⟨n, rfl⟩, hb2⟩; have HB2 := Lib.hid (bstep HBr.out hb2 HBr.out.size); clear hb2)
            go_ret2
            exact ⟨by simp only [List.map_cons, List.map_nil, HBAD.out]; rfl, HB2.out⟩
        | 3, _ =>
          have hN := number_P b3 (by have := hmx b3 (by simp); omega) wr
          cases hk : okP b3.data.toList with
          | true =>
            have hN' := hN.mono (R' := fun e w' => e = .returned (.tuple #[.int .i64 (dv b3.data.toList : Nat), .bool true]) ∧ Below wr.heap.size wr w') fun e w' hh => ⟨hh.1 hk, hh.2.2⟩
            have hac := accF_lt [b0.data.toList, b1.data.toList, b2.data.toList, b3.data.toList] 3 (fun k hk => hok k hk)
            have hdv := okP_le hk
            have hor := or_byte (accF [b0.data.toList, b1.data.toList, b2.data.toList, b3.data.toList] 3) (dv b3.data.toList) (by omega) hdv
            have hnx : accF [b0.data.toList, b1.data.toList, b2.data.toList, b3.data.toList] 3 * 256 + dv b3.data.toList = accF [b0.data.toList, b1.data.toList, b2.data.toList, b3.data.toList] 4 := by simp [accF]
            rw [hnx] at hor
            have HOR := Lib.hid hor
            have HN := Lib.hid hN'
            clear hN hN' hor hnx hac hdv
            go_wp2_with (go_at_call 146; refine HN.out.mono ?_; rintro e w2 ⟨rfl, hb2⟩; have HB2 := Lib.hid (bstep HBr.out hb2 HBr.out.size); have HC2 := Lib.hid ((hb2.block w.heap.size (blk_lt' HCr.out)).trans HCr.out); clear hb2)
            go_roundw
            case rel => exact ⟨4, by omega, rfl, fun k hk' => okstep hok hk hk', by rw [HOR.out], HB2.out, HC2.out⟩
            case measure => simp [intOf]
          | false =>
            have hN' := hN.mono (R' := fun e w' => (∃ n : Int, e = .returned (.tuple #[.int .i64 n, .bool false])) ∧ Below wr.heap.size wr w') fun e w' hh => ⟨hh.2.1 hk, hh.2.2⟩
            have hb := num4_bad b0.data.toList b1.data.toList b2.data.toList b3.data.toList (by exact .inr (.inr (.inr hk)))
            have HN := Lib.hid hN'
            have HBAD := Lib.hid hb
            clear hN hN' hb
            go_wp2_with (go_at_call 146; refine HN.out.mono ?_; rintro e w2 ⟨⟨n, rfl⟩, hb2⟩; have HB2 := Lib.hid (bstep HBr.out hb2 HBr.out.size); clear hb2)
            go_ret2
            exact ⟨by simp only [List.map_cons, List.map_nil, HBAD.out]; rfl, HB2.out⟩
        | 4, _ =>
          have hgood := num4_ok b0.data.toList b1.data.toList b2.data.toList b3.data.toList (hok 0 (by decide)) (hok 1 (by decide)) (hok 2 (by decide)) (hok 3 (by decide))
          have HG := Lib.hid hgood
          clear hgood
          go_wp2_with fail
          go_ret2
          exact ⟨by simp only [List.map_cons, List.map_nil, HG.out]; rfl, HBr.out⟩
  · have hr : parseV (num4 (bs.map (·.data.toList))) = .tuple #[.int .u32 0, .int .i64 2] := by
      match bs, h4 with
      | [], _ => rfl
      | [_], _ => rfl
      | [_, _], _ => rfl
      | [_, _, _], _ => rfl
      | [_, _, _, _], h => exact absurd rfl h
      | _ :: _ :: _ :: _ :: _ :: _, _ => rfl
    rw [hr]
    have hn : ((bs.length : Int) != 4) = true := by rw [bne_iff_ne]; omega
    clear hr h4
    go_enter Tryz.func147, Tryz.ntmps147
    go_wp2_with (go_at_call 24; refine HS.out.mono ?_; rintro e w1 ⟨rfl, hw1⟩)
    go_ret2
    exact ⟨rfl, bnew _ _⟩
end Go.Proofs.YtnmbbnhgoedjgaaGreatDoor.St2

