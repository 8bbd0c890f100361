/- The law ConfBlank, walked. -/
import Derived.Test.YtnmbbnhgoedjgaaGreatDoorQCk5
namespace Go.Proofs.YtnmbbnhgoedjgaaGreatDoor.Ck6
open Go Go.RowKit Go.Proofs.YtnmbbnhgoedjgaaGreatDoor.Ad0 Go.Proofs.YtnmbbnhgoedjgaaGreatDoor.Ad1 Go.Proofs.YtnmbbnhgoedjgaaGreatDoor.St2 Go.Proofs.YtnmbbnhgoedjgaaGreatDoor.St3 Go.Proofs.YtnmbbnhgoedjgaaGreatDoor.Ru0 Go.Proofs.YtnmbbnhgoedjgaaGreatDoor.Ru5 Go.Proofs.YtnmbbnhgoedjgaaGreatDoor.Ru6 Go.Proofs.YtnmbbnhgoedjgaaGreatDoor.RuB Go.Proofs.YtnmbbnhgoedjgaaGreatDoor.RuC Go.Proofs.YtnmbbnhgoedjgaaGreatDoor.RuY Go.Proofs.YtnmbbnhgoedjgaaGreatDoor.RuYa Go.Proofs.YtnmbbnhgoedjgaaGreatDoor.RuZ Go.Proofs.YtnmbbnhgoedjgaaGreatDoor.Cf0 Go.Proofs.YtnmbbnhgoedjgaaGreatDoor.Cf4 Go.Proofs.YtnmbbnhgoedjgaaGreatDoor.Cg0 Go.Proofs.YtnmbbnhgoedjgaaGreatDoor.CkO Go.Proofs.YtnmbbnhgoedjgaaGreatDoor.RuX Go.Proofs.YtnmbbnhgoedjgaaGreatDoor.CgM Go.Proofs.YtnmbbnhgoedjgaaGreatDoor.Cg5 Go.Proofs.YtnmbbnhgoedjgaaGreatDoor.Ch4 Go.Proofs.YtnmbbnhgoedjgaaGreatDoor.Ch7 Go.Proofs.YtnmbbnhgoedjgaaGreatDoor.CgL Go.Proofs.YtnmbbnhgoedjgaaGreatDoor.Ck1 Go.Proofs.YtnmbbnhgoedjgaaGreatDoor.Ck2 Go.Proofs.YtnmbbnhgoedjgaaGreatDoor.Cf1 Go.Proofs.YtnmbbnhgoedjgaaGreatDoor.Cg2 Go.Proofs.YtnmbbnhgoedjgaaGreatDoor.Cg9 Go.Proofs.YtnmbbnhgoedjgaaGreatDoor.CgC Go.Proofs.YtnmbbnhgoedjgaaGreatDoor.Chp Go.Proofs.YtnmbbnhgoedjgaaGreatDoor.Ch5 Go.Proofs.YtnmbbnhgoedjgaaGreatDoor.RuN Go.Proofs.YtnmbbnhgoedjgaaGreatDoor.RuO Go.Proofs.YtnmbbnhgoedjgaaGreatDoor.Cg7 Go.Proofs.YtnmbbnhgoedjgaaGreatDoor.CgW Go.Proofs.YtnmbbnhgoedjgaaGreatDoor.CgV Go.Proofs.YtnmbbnhgoedjgaaGreatDoor.CgT Go.Proofs.YtnmbbnhgoedjgaaGreatDoor.CgU Go.Proofs.YtnmbbnhgoedjgaaGreatDoor.Ck0 Go.Proofs.YtnmbbnhgoedjgaaGreatDoor.Cf2
set_option linter.unusedVariables false
set_option linter.unusedSimpArgs false
def rem (n : Nat) : Wd := unlines (List.replicate n wRemark)
theorem rem_len (n : Nat) : (rem n).length = 6 * n := by
  unfold rem unlines
  induction n with
  | zero => rfl
  | succ n ih => rw [List.replicate_succ, List.flatMap_cons, List.length_append, ih]; simp [wRemark]; omega
theorem rem_cat (n : Nat) : (⟨(rem n).toArray⟩ : ByteArray) ++ ⟨#[32, 32, 35, 32, 120, 10]⟩ = ⟨(rem (n + 1)).toArray⟩ := by
  apply ByteArray.ext
  unfold rem
  rw [List.replicate_succ', unlines_app]
  simp [ByteArray.data_append, unlines, wRemark]
theorem cat_a (S T : Wd) : ((⟨S.toArray⟩ : ByteArray) ++ ⟨T.toArray⟩) ++ ⟨#[10, 32, 32, 32]⟩ = ⟨(S ++ (T ++ [10, 32, 32, 32])).toArray⟩ := by
  apply ByteArray.ext
  simp [ByteArray.data_append]
theorem cat_b (S T : Wd) : ((⟨S.toArray⟩ : ByteArray) ++ ⟨#[110, 111, 116, 104, 105, 110, 103, 10]⟩) ++ ⟨T.toArray⟩ = ⟨(S ++ (wNothing ++ 10 :: T)).toArray⟩ := by
  apply ByteArray.ext
  simp [ByteArray.data_append, wNothing]
set_option maxRecDepth 100000 in
set_option maxHeartbeats 8000000 in
theorem blank_walk (HI : IsIfaceSaid) (HPr : PrintedSaid) (KPR : RPrintSaid) (c : ConfM) (v0 v1 v2 v3 : Value) (ts : List (NamedM × Value)) (n : Int) (W : World) (h : ConfIn W v0 v1 v2 v3 ts c) (hw : WideC c) (hl : LibOK W) :
    Calls Tryz.prog 5 #[.agg (confC v0 v1 v2 v3 c), .int .i64 n] W fun e w' => e = .returned (.bool true) ∧ Below W.heap.size W w' := by
  have KH := Lib.hid (fun W' (hb : Below W.heap.size W W') => heavy_any c v0 v1 v2 v3 ts W' (h.below hb) hw)
  have HN6 := Lib.hid (Cg2.info6 v0 v1 v2 v3 c)
  have HP : Hid (PrT W (confC v0 v1 v2 v3 c) (W.alloc (.cells (confC v0 v1 v2 v3 c) 27))) := ⟨heap_alloc_new W _, bnew W _, by simp⟩
  have K1 := Lib.hid (fun (hf : FitC c) W' (hb : Below W.heap.size W W') => print_conf HI HPr c v0 v1 v2 v3 ts W' (h.below hb) hf (hl.below hb))
  have K6 := Lib.hid (fun (hf : FitC c) W' (hb : Below W.heap.size W W') => rcheck_conf KPR c v0 v1 v2 v3 ts W' (h.below hb) hf (hl.below hb))
  have K8 := Lib.hid (fun (hf : FitC c) W' (hb : Below W.heap.size W W') u0 u1 u2 u3 us (h' : ConfIn W' u0 u1 u2 u3 us c) => by
    have h1 := rsame_conf c c v0 v1 v2 v3 u0 u1 u2 u3 ts us W' (h.below hb) h' hf hf
    rw [show decide (c = c) = true by simp] at h1
    exact h1)
  have K9 := Lib.hid (fun W' (hb : Below W.heap.size W W') => known_any HI HPr W' (hl.below hb))
  have HF := Lib.hid (light_fit c hw)
  unfold checkV at K6
  have HLt := Lib.hid (fun hz => (isC_facts c (check_none c hz).2).text)
  have KP1 := Lib.hid (fun (hz : (checkC c).1 = 0) (m : Nat) (hm : (rem m ++ (textC c ++ [10, 32, 32, 32])).length ≤ 8192) W' (hb : Below W.heap.size W W') => by
    have h1 := parse_any HI HPr (rem m ++ (textC c ++ [10, 32, 32, 32])) hm W' (hl.below hb)
    unfold ParseGot at h1
    rw [show parseC (rem m ++ (textC c ++ [10, 32, 32, 32])) = (c, 0, 0) from blank_back c m (check_none c hz).2 hw.ok hz hm, ← cat_a] at h1
    exact h1)
  have KP2 := Lib.hid (fun (m : Nat) (hm : (rem m ++ (wNothing ++ 10 :: textC c)).length ≤ 8192) W' (hb : Below W.heap.size W W') => by
    have h1 := parse_any HI HPr (rem m ++ (wNothing ++ 10 :: textC c)) hm W' (hl.below hb)
    unfold ParseGot at h1
    rw [show parseC (rem m ++ (wNothing ++ 10 :: textC c)) = ({}, ((m + 1 : Nat) : Int), 2) from bad_line (textC c) m hm, ← cat_b] at h1
    exact h1)
  have HZ := Lib.hid (check_none c)
  clear h hw hl
  generalize confC v0 v1 v2 v3 c = cs at *
  cases hx : Ck1.heavyF c with
  | true =>
    rw [hx] at KH
    go_enter Tryz.func5, Tryz.ntmps5
    go_wp2_with (first
      | ((with_reducible refine Mem.load_row W.heap.size ?_ HP.out.box Tryz.underlying27 HN6.out ?_ ?_); rfl; rfl)
      | (go_at_call 13; (with_reducible refine (KH.out _ HP.out.low).mono ?_); rintro e w1 ⟨rfl, hb1⟩; have HP := Lib.hid (HP.out.below hb1); clear hb1))
    go_ret
    exact ⟨rfl, HP.out.low⟩
  | false =>
  have HF := Lib.hid (HF.out hx)
  rw [hx] at KH
  by_cases hn0 : n < 0
  · have hn0' := hn0
    go_enter Tryz.func5, Tryz.ntmps5
    go_wp2_with (first
      | ((with_reducible refine Mem.load_row W.heap.size ?_ HP.out.box Tryz.underlying27 HN6.out ?_ ?_); rfl; rfl)
      | (go_at_call 13; (with_reducible refine (KH.out _ HP.out.low).mono ?_); rintro e w1 ⟨rfl, hb1⟩; have HP := Lib.hid (HP.out.below hb1); clear hb1))
    go_ret
    exact ⟨rfl, HP.out.low⟩
  by_cases hn1 : 20 < n
  · have hn1' := hn1
    go_enter Tryz.func5, Tryz.ntmps5
    go_wp2_with (first
      | ((with_reducible refine Mem.load_row W.heap.size ?_ HP.out.box Tryz.underlying27 HN6.out ?_ ?_); rfl; rfl)
      | (go_at_call 13; (with_reducible refine (KH.out _ HP.out.low).mono ?_); rintro e w1 ⟨rfl, hb1⟩; have HP := Lib.hid (HP.out.below hb1); clear hb1))
    go_ret
    exact ⟨rfl, HP.out.low⟩
  have hn2 : n ≤ 20 := by omega
  have hn3 : decide (20 < n) = false := decide_eq_false hn1
  have K6 := Lib.hid (K6.out HF.out)
  cases hz : ((checkC c).1 != 0) with
  | true =>
    generalize (checkC c).1 = ce at *
    generalize (⟨(checkC c).2.toArray⟩ : ByteArray) = cz at *
    go_enter Tryz.func5, Tryz.ntmps5
    go_wp2_with (first
      | ((with_reducible refine Mem.load_row W.heap.size ?_ HP.out.box Tryz.underlying27 HN6.out ?_ ?_); rfl; rfl)
      | (go_at_call 13; (with_reducible refine (KH.out _ HP.out.low).mono ?_); rintro e w1 ⟨rfl, hb1⟩; have HP := Lib.hid (HP.out.below hb1); clear hb1)
      | (go_at_call 14; (with_reducible refine (K6.out _ HP.out.low).mono ?_); rintro e w2 ⟨rfl, hb1⟩; have HP := Lib.hid (HP.out.below hb1); clear hb1)
      | (go_at_call 12; (with_reducible refine (K9.out _ HP.out.low).mono ?_); rintro e w9 ⟨rfl, hb1⟩; have HP := Lib.hid (HP.out.below hb1); clear hb1))
    go_ret
    exact ⟨rfl, HP.out.low⟩
  | false =>
  have hz : (checkC c).1 = 0 := by simpa using hz
  have HZ := HZ.out hz
  have KP1 := Lib.hid (KP1.out hz)
  have hlt := HLt.out hz
  have K1 := Lib.hid (K1.out HF.out)
  have K8 := Lib.hid (K8.out HF.out)
  rw [hz] at K6
  rw [if_pos HZ.2] at K1
  have htl : (⟨(textC c).toArray⟩ : ByteArray).size = (textC c).length := List.size_toArray
  have HLL := Lib.hid (show ∀ m, (rem m ++ (textC c ++ [10, 32, 32, 32])).length = 6 * m + (textC c).length + 4 from fun m => by rw [List.length_append, rem_len, List.length_append]; simp; omega)
  have HLM := Lib.hid (show ∀ m, (rem m ++ (wNothing ++ 10 :: textC c)).length = 6 * m + (textC c).length + 8 from fun m => by rw [List.length_append, rem_len, List.length_append]; simp [wNothing]; omega)
  have hlt : (textC c).length ≤ 8192 := hlt
  generalize (⟨(checkC c).2.toArray⟩ : ByteArray) = cz at *
  generalize hN : (textC c).length = N at *
  generalize (⟨(textC c).toArray⟩ : ByteArray) = tx at *
  obtain ⟨m, rfl⟩ : ∃ m : Nat, n = m := ⟨n.toNat, by omega⟩
  have hm20 : m ≤ 20 := by omega
  clear HZ hz hN HLt
  go_enter Tryz.func5, Tryz.ntmps5
  go_wp2_with (first
    | ((with_reducible refine Mem.load_row W.heap.size ?_ HP.out.box Tryz.underlying27 HN6.out ?_ ?_); rfl; rfl)
    | (go_at_call 13; (with_reducible refine (KH.out _ HP.out.low).mono ?_); rintro e w1 ⟨rfl, hb1⟩; have HP := Lib.hid (HP.out.below hb1); clear hb1)
    | (go_at_call 14; (with_reducible refine (K6.out _ HP.out.low).mono ?_); rintro e w2 ⟨rfl, hb1⟩; have HP := Lib.hid (HP.out.below hb1); clear hb1))
  go_loopw [7, 8] (fun s7 s8 wr => ∃ k : Nat, k ≤ m ∧ s8 = .int .i64 k ∧ s7 = .string ⟨(rem k).toArray⟩ ∧ PrT W cs wr) (fun s7 s8 _ => m - (intOf s8).toNat)
  case atStart => exact ⟨0, by omega, rfl, rfl, HP.out⟩
  case round =>
    obtain ⟨k, hkl, rfl, rfl, hp⟩ := hrel
    have HP := Lib.hid hp
    have HC := Lib.hid (rem_cat k)
    have hrk : (⟨(rem k).toArray⟩ : ByteArray).size = 6 * k := by rw [show (⟨(rem k).toArray⟩ : ByteArray).size = (rem k).length from List.size_toArray, rem_len]
    clear hp
    by_cases hlt' : k < m
    · have hlt2 : (k : Int) < m := by omega
      generalize (⟨(rem k).toArray⟩ : ByteArray) = sk at *
      go_wp2_with fail
      go_roundw
      case rel => exact ⟨k + 1, by omega, by go_num, by rw [← HC.out], HP.out⟩
      case measure => simp only [intOf]; go_num
    · have hge : ¬ (k : Int) < m := by omega
      obtain rfl : k = m := by omega
      by_cases hbig : (8192 : Int) < (6 * k : Nat) + N + 10
      · generalize (⟨(rem k).toArray⟩ : ByteArray) = sk at *
        go_wp2_with (first
          | ((with_reducible refine Mem.load_row W.heap.size ?_ HP.out.box Tryz.underlying27 HN6.out ?_ ?_); rfl; rfl)
          | (go_at_call 13; (with_reducible refine (KH.out _ HP.out.low).mono ?_); rintro e w1 ⟨rfl, hb1⟩; have HP := Lib.hid (HP.out.below hb1); clear hb1)
          | (go_at_call 14; (with_reducible refine (K6.out _ HP.out.low).mono ?_); rintro e w2 ⟨rfl, hb1⟩; have HP := Lib.hid (HP.out.below hb1); clear hb1)
          | (go_at_call 15; (with_reducible refine (K1.out _ HP.out.low).mono ?_); rintro e w3 ⟨rfl, hb1⟩; have HP := Lib.hid (HP.out.below hb1); clear hb1)
          | (go_at_call 12; (with_reducible refine (K9.out _ HP.out.low).mono ?_); rintro e w9 ⟨rfl, hb1⟩; have HP := Lib.hid (HP.out.below hb1); clear hb1))
        go_ret
        exact ⟨rfl, HP.out.low⟩
      · have KP1 := Lib.hid (KP1.out k (by rw [HLL.out]; omega))
        have KP2 := Lib.hid (KP2.out k (by rw [HLM.out]; omega))
        rw [show (((k + 1 : Nat) : Int)) = (k : Int) + 1 by omega] at KP2
        generalize (⟨(rem k).toArray⟩ : ByteArray) = sk at *
        go_wp2_with (first
          | ((with_reducible refine Mem.load_row W.heap.size ?_ HP.out.box Tryz.underlying27 HN6.out ?_ ?_); rfl; rfl)
          | (go_at_call 13; (with_reducible refine (KH.out _ HP.out.low).mono ?_); rintro e w1 ⟨rfl, hb1⟩; have HP := Lib.hid (HP.out.below hb1); clear hb1)
          | (go_at_call 14; (with_reducible refine (K6.out _ HP.out.low).mono ?_); rintro e w2 ⟨rfl, hb1⟩; have HP := Lib.hid (HP.out.below hb1); clear hb1)
          | (go_at_call 15; (with_reducible refine (K1.out _ HP.out.low).mono ?_); rintro e w3 ⟨rfl, hb1⟩; have HP := Lib.hid (HP.out.below hb1); clear hb1)
          | (go_at_call 9; (with_reducible refine (KP1.out _ HP.out.low).mono ?_); rintro e w4 ⟨u0, u1, u2, u3, us, rfl, hc, hb1⟩; have HP := Lib.hid (HP.out.below hb1); have HCu := Lib.hid hc; have HOu := Lib.hid (conf_one hc c); have HIu := Lib.hid (Cg2.info6 u0 u1 u2 u3 c); clear hc hb1)
          | ((with_reducible refine store_new (confC u0 u1 u2 u3 c) ?_ ?_ ?_ HIu.out HOu.out ?_ ?_); rfl; rfl; rfl; rfl; intro V hV hbV hlV; have HP := Lib.hid (HP.out.below hbV); have HCu := Lib.hid (HCu.out.below hbV); have HRu := Lib.hid hV; clear hV hbV hlV)
          | (go_at_call 9; (with_reducible refine (KP2.out _ HP.out.low).mono ?_); rintro e w5 ⟨x0, x1, x2, x3, xs, rfl, hc, hb1⟩; have HP := Lib.hid (HP.out.below hb1); have HCu := Lib.hid (HCu.out.below hb1); have HRu := row_step HRu hb1; have HCx := Lib.hid hc; have HOx := Lib.hid (conf_one hc {}); have HIx := Lib.hid (Cg2.info6 x0 x1 x2 x3 {}); clear hc hb1)
          | ((with_reducible refine store_new (confC x0 x1 x2 x3 {}) ?_ ?_ ?_ HIx.out HOx.out ?_ ?_); rfl; rfl; rfl; rfl; intro V2 hV hbV hlV; have HP := Lib.hid (HP.out.below hbV); have HCu := Lib.hid (HCu.out.below hbV); have HRu := row_step HRu hbV; have HCx := Lib.hid (HCx.out.below hbV); have HRx := Lib.hid hV; clear hV hbV hlV)
          | ((with_reducible refine Mem.load_row w4.heap.size ?_ HRu.out Tryz.underlying27 HIu.out ?_ ?_); rfl; rfl)
          | (go_at_call 11; (with_reducible refine (K8.out _ HP.out.low _ _ _ _ _ HCu.out).mono ?_); rintro e w8 ⟨rfl, hb1⟩; have HP := Lib.hid (HP.out.below hb1); clear hb1)
          | (go_at_call 12; (with_reducible refine (K9.out _ HP.out.low).mono ?_); rintro e w9 ⟨rfl, hb1⟩; have HP := Lib.hid (HP.out.below hb1); clear hb1))
        go_ret
        exact ⟨rfl, HP.out.low⟩
end Go.Proofs.YtnmbbnhgoedjgaaGreatDoor.Ck6

