/- conf.Check. castellanref20.Is, Print. -/
import Derived.Test.YtnmbbnhgoedjgaaGreatDoorQCg8
import Derived.Test.YtnmbbnhgoedjgaaGreatDoorQCg5
import Derived.Test.YtnmbbnhgoedjgaaGreatDoorQCgS
import Derived.Test.YtnmbbnhgoedjgaaGreatDoorQRuS
namespace Go.Proofs.YtnmbbnhgoedjgaaGreatDoor.CgC
open Go Go.RowKit Go.Proofs.YtnmbbnhgoedjgaaGreatDoor.Ad1 Go.Proofs.YtnmbbnhgoedjgaaGreatDoor.St2 Go.Proofs.YtnmbbnhgoedjgaaGreatDoor.B1 Go.Proofs.YtnmbbnhgoedjgaaGreatDoor.Ad3 Go.Proofs.YtnmbbnhgoedjgaaGreatDoor.Ru0 Go.Proofs.YtnmbbnhgoedjgaaGreatDoor.Ru6 Go.Proofs.YtnmbbnhgoedjgaaGreatDoor.RuB Go.Proofs.YtnmbbnhgoedjgaaGreatDoor.RuC Go.Proofs.YtnmbbnhgoedjgaaGreatDoor.Rw0 Go.Proofs.YtnmbbnhgoedjgaaGreatDoor.RuJ Go.Proofs.YtnmbbnhgoedjgaaGreatDoor.RuY Go.Proofs.YtnmbbnhgoedjgaaGreatDoor.Cf0 Go.Proofs.YtnmbbnhgoedjgaaGreatDoor.Cf4 Go.Proofs.YtnmbbnhgoedjgaaGreatDoor.Cg0 Go.Proofs.YtnmbbnhgoedjgaaGreatDoor.Cg1 Go.Proofs.YtnmbbnhgoedjgaaGreatDoor.Cg2 Go.Proofs.YtnmbbnhgoedjgaaGreatDoor.CgM Go.Proofs.YtnmbbnhgoedjgaaGreatDoor.RuX Go.Proofs.YtnmbbnhgoedjgaaGreatDoor.Cg5 Go.Proofs.YtnmbbnhgoedjgaaGreatDoor.Cg8 Go.Proofs.YtnmbbnhgoedjgaaGreatDoor.Cg9
set_option linter.unusedVariables false
set_option linter.unusedSimpArgs false
def checkV (c : ConfM) : Value := .tuple #[.int .i64 (checkC c).1, .string ⟨(checkC c).2.toArray⟩]
theorem some_hit {α β : Type} (f : α → Option β) (l : List α) (k : Nat) (x : α) (y : β) (hx : l[k]? = some x) (hp : f x = some y) (hn : ∀ j z, j < k → l[j]? = some z → f z = none) : l.findSome? f = some y := by
  induction l generalizing k with
  | nil => simp at hx
  | cons a t ih =>
    cases k with
    | zero => simp at hx; subst hx; simp [List.findSome?_cons, hp]
    | succ k =>
      have h0 := hn 0 a (by omega) rfl
      rw [List.findSome?_cons, h0]
      exact ih k (by simpa using hx) (fun j z hj hz => hn (j + 1) z (by omega) (by simpa using hz))
theorem some_miss {α β : Type} (f : α → Option β) (l : List α) (hn : ∀ j z, j < l.length → l[j]? = some z → f z = none) : l.findSome? f = none := by
  rw [List.findSome?_eq_none_iff]
  intro x hx
  obtain ⟨j, hj, rfl⟩ := List.mem_iff_getElem.1 hx
  exact hn j _ hj (List.getElem?_eq_getElem hj)
theorem strs_next {α : Type} (f : α → Wd) (l : List α) (k : Nat) (x : α) (hx : l[k]? = some x) : ((l.take k).map fun y => Value.string ⟨(f y).toArray⟩) ++ [.string ⟨(f x).toArray⟩] = (l.take (k + 1)).map fun y => Value.string ⟨(f y).toArray⟩ := by
  rw [List.take_add_one, hx]
  simp
theorem check_bad (c : ConfM) (h : isC c = false) : checkC c = (2, []) := by unfold checkC; simp [h]
theorem check_if (c : ConfM) (h : isC c = true) (n : Wd) (h1 : twiceL [] (c.ifaces.map (·.name)) = some n) : checkC c = (8, n) := by unfold checkC; simp [h, h1]
theorem check_tb (c : ConfM) (h : isC c = true) (n : Wd) (h1 : twiceL [] (c.ifaces.map (·.name)) = none) (h2 : twiceL [] (c.tables.map (·.name)) = some n) : checkC c = (8, n) := by unfold checkC; simp [h, h1, h2]
theorem check_rl (c : ConfM) (h : isC c = true) (n : Wd) (h1 : twiceL [] (c.ifaces.map (·.name)) = none) (h2 : twiceL [] (c.tables.map (·.name)) = none) (h3 : c.rules.findSome? (wrongOf c) = some n) : checkC c = (8, n) := by unfold checkC; simp [h, h1, h2, h3]
theorem check_ok (c : ConfM) (h : isC c = true) (h1 : twiceL [] (c.ifaces.map (·.name)) = none) (h2 : twiceL [] (c.tables.map (·.name)) = none) (h3 : c.rules.findSome? (wrongOf c) = none) : checkC c = (0, []) := by unfold checkC; simp [h, h1, h2, h3]
set_option maxRecDepth 20000 in
set_option maxHeartbeats 8000000 in
theorem check_conf (HI : IsIfaceSaid) (HPr : PrintedSaid) (c : ConfM) (v0 v1 v2 v3 : Value) (ts : List (NamedM × Value)) (W : World) (h : ConfIn W v0 v1 v2 v3 ts c) (hf : FitC c) (hl : LibOK W) :
    Calls Tryz.prog 16 #[.agg (confC v0 v1 v2 v3 c)] W fun e w' => e = .returned (checkV c) ∧ Below W.heap.size W w' := by
  have HN := Lib.hid (Cg2.info6 v0 v1 v2 v3 c)
  have HW := Lib.hid h
  have HO := Lib.hid hf
  have K1 := Lib.hid (fun W' (hb : Below W.heap.size W W') => is_conf HI HPr c v0 v1 v2 v3 ts W' (h.below hb) hf (hl.below hb))
  have KU := Lib.hid (fun r W' (hb : Below W.heap.size W W') => unknown_any c v0 v1 v2 v3 ts r W' (h.below hb) hf)
  obtain ⟨A0, cap0, e0, -, -⟩ := h.ifaces
  obtain ⟨A2, cap2, e2, -, -⟩ := h.tables
  obtain ⟨A3, cap3, e3, -, -⟩ := h.rules
  subst e0 e2 e3
  have HSz : Hid (isC c = true → c.ifaces.length ≤ 1048576 ∧ ts.length ≤ 1048576 ∧ c.rules.length ≤ 1048576) := fun hq => by have := fit_small hf hq; have := h.tlen; omega
  clear hl h hf
  generalize hcs : confC (.slice A0 c.ifaces.length cap0) v1 (.slice A2 ts.length cap2) (.slice A3 c.rules.length cap3) c = cs at *
  have d0 : cs[0]? = some (.slice A0 c.ifaces.length cap0) := by rw [← hcs]; rfl
  have d2 : cs[2]? = some (.slice A2 ts.length cap2) := by rw [← hcs]; rfl
  have d3 : cs[3]? = some (.slice A3 c.rules.length cap3) := by rw [← hcs]; rfl
  have HD : Hid (_ ∧ _ ∧ _) := ⟨d0, d2, d3⟩
  clear hcs d0 d2 d3
  have HP : Hid (PrT W cs (W.alloc (.cells cs 27))) := ⟨heap_alloc_new W _, bnew W _, by simp⟩
  cases hq : isC c with
  | false =>
    clear HSz
    rw [hq] at K1
    have HV := Lib.hid (show checkV c = .tuple #[.int .i64 2, .string ⟨#[]⟩] by unfold checkV; rw [check_bad c hq])
    go_enter Tryz.func16, Tryz.ntmps16
    go_wp2_with (first
      | ((with_reducible refine Mem.load_row W.heap.size ?_ HP.out.box Tryz.underlying27 HN.out ?_ ?_); rfl; rfl)
      | (go_at_call 19; (with_reducible refine (K1.out _ HP.out.low).mono ?_); rintro e w1 ⟨rfl, hb1⟩; have HP := Lib.hid (HP.out.below hb1); clear hb1))
    go_ret2
    exact ⟨by rw [HV.out]; rfl, HP.out.low⟩
  | true =>
  rw [hq] at K1
  have HQ := Lib.hid hq
  obtain ⟨hni, hnt, hnr⟩ := HSz.out hq
  clear hq HSz
  go_enter Tryz.func16, Tryz.ntmps16
  go_wp2_with (first
    | ((with_reducible refine Mem.load_row W.heap.size ?_ HP.out.box Tryz.underlying27 HN.out ?_ ?_); rfl; rfl)
    | (go_at_call 19; (with_reducible refine (K1.out _ HP.out.low).mono ?_); rintro e w1 ⟨rfl, hb1⟩; have HP := Lib.hid (HP.out.below hb1); have q0 := HP.out.cell HD.out.1; have HPb := HP; clear hb1))
  go_loopw [4, 24] (fun s4 s24 wr => ∃ k : Nat, k ≤ c.ifaces.length ∧ s24 = .int .i64 k ∧ wr.ownsRow w1.heap.size 9 1 s4 k ((c.ifaces.take k).map fun y => .string ⟨y.name.toArray⟩) ∧ Below w1.heap.size w1 wr) (fun s4 s24 _ => c.ifaces.length - (intOf s24).toNat)
  case atStart => exact ⟨0, by omega, rfl, World.ownsRow_nil _ _ _ _, Below.refl _ _⟩
  case round =>
    obtain ⟨k, hkl, rfl, ho, hb⟩ := hrel
    have HOw := Lib.hid ho
    have HB := Lib.hid hb
    have HP := Lib.hid (HPb.out.below hb)
    clear ho hb
    by_cases hlt : k < c.ifaces.length
    · have hlt' : (k : Int) < c.ifaces.length := by omega
      have hk63 : (k : Int) + 1 ≤ 9223372036854775807 := by omega
      obtain ⟨x, hx⟩ : ∃ x, c.ifaces[k]? = some x := ⟨_, List.getElem?_eq_getElem hlt⟩
      obtain ⟨b, o, c1, hv1, -, hbl, hr⟩ := HW.out.ifaces.at ifL_len k x hx
      injection hv1 with e1 e2 e3
      subst e1 e3
      have HX := Lib.hid (range_below hr HP.out.low hbl)
      have HNx := Lib.hid (info5 x)
      have HNl := Lib.hid (show (Tryz.prog.info? 45).map (·.size) = some (ifL x).length by kernel_rfl)
      have HOne := Lib.hid (show (ifL x).toArray.all (·.oneCell') = true by kernel_rfl)
      have HSz := Lib.hid (show (ifL x).toArray.size = 5 from rfl)
      have HE : Hid ((ifL x).toArray[0]? = some (.string ⟨x.name.toArray⟩)) := rfl
      have HNe := Lib.hid (strs_next (fun y : IfaceM => y.name) c.ifaces k x hx)
      clear hr hx
      generalize ifL x = fx at *
      generalize x.name = nm at *
      go_wp2_with (first
        | ((with_reducible refine load_range b (o + k * 5) ?_ HX.out Tryz.underlying45 HNl.out ?_ ?_); rfl; rfl)
        | ((with_reducible refine store_new fx.toArray ?_ ?_ ?_ HNx.out HOne.out ?_ ?_); rfl; rfl; exact HSz.out; rfl; intro V hV hbV hlV; have HOw := Lib.hid (own_below HOw.out hbV); have HB := Lib.hid (bstep HB.out hbV HB.out.size); have g0 := (cell_of_row _ _ 0 _ _ _ hV).trans HE.out; clear hV hbV hlV)
        | (at_builtin; refine wpList_append_one rfl _ _ 55 rfl w1.heap.size 9 (.string ByteArray.empty) 16 Tryz.underlying55 info9 rfl _ _ _ rfl HOw.out (.string ⟨nm.toArray⟩) rfl rfl (by simp only [maxLen]; omega) (by omega) HB.out.size ?_; intro v' w' ho hb hz hn; have HO2 := Lib.hid ho; have HB2 := Lib.hid (HB.out.trans hb); clear ho hb hz hn))
      go_roundw
      case rel => exact ⟨k + 1, by omega, by go_num, by rw [← HNe.out]; exact HO2.out, HB2.out⟩
      case measure => simp only [intOf]; go_num
    · have hge : ¬ (k : Int) < c.ifaces.length := by omega
      have hke : k = c.ifaces.length := by omega
      have HS1 : Hid (Sl wr u4 (c.ifaces.map (·.name)).length ((c.ifaces.map (·.name)).map fun x => Value.string ⟨x.toArray⟩)) := by
        have h := own_sl HOw.out
        rw [hke, List.take_length] at h
        rw [List.length_map, List.map_map]
        exact h
      obtain ⟨B1, bc1, eb1, -, -⟩ := HS1.out
      rw [List.length_map] at eb1
      subst eb1
      have q2 := HP.out.cell HD.out.2.1
      have HPb := HP
      clear HOw HB
      obtain ⟨W2, rfl⟩ : ∃ W2, W2 = wr := ⟨_, rfl⟩
      go_wp2_with fail
      go_loopw [5, 37] (fun s5 s37 wr => ∃ k : Nat, k ≤ ts.length ∧ s37 = .int .i64 k ∧ wr.ownsRow W2.heap.size 9 1 s5 k ((ts.take k).map fun y => .string ⟨y.1.name.toArray⟩) ∧ Below W2.heap.size W2 wr) (fun s5 s37 _ => ts.length - (intOf s37).toNat)
      case atStart => exact ⟨0, by omega, rfl, World.ownsRow_nil _ _ _ _, Below.refl _ _⟩
      case round =>
        obtain ⟨k, hkl, rfl, ho, hb⟩ := hrel
        have HOw := Lib.hid ho
        have HB := Lib.hid hb
        have HP := Lib.hid (HPb.out.below hb)
        have HS1 := Lib.hid (HS1.out.below hb)
        clear ho hb
        by_cases hlt : k < ts.length
        · have hlt' : (k : Int) < ts.length := by omega
          have hk63 : (k : Int) + 1 ≤ 9223372036854775807 := by omega
          obtain ⟨t, hx⟩ : ∃ t, ts[k]? = some t := ⟨_, List.getElem?_eq_getElem hlt⟩
          obtain ⟨b, o, c1, hv1, -, hbl, hr⟩ := HW.out.tables.at nmL_len k t hx
          injection hv1 with e1 e2 e3
          subst e1 e3
          have HX := Lib.hid (range_below hr HP.out.low hbl)
          have HNe := Lib.hid (strs_next (fun y : NamedM × Value => y.1.name) ts k t hx)
          have hone := (by obtain ⟨Au, cu, eu, -⟩ := HW.out.tin t (List.mem_of_getElem? hx); rw [eu]; rfl : t.2.oneCell' = true)
          clear hr hx
          obtain ⟨⟨nm, l⟩, u⟩ := t
          dsimp only at HNe hone
          have HX := Lib.hid (show wr.rangeAt b (o + k * 2) [Value.string ⟨nm.toArray⟩, u] from HX.out)
          have HOne2 := Lib.hid (show (#[Value.string ⟨nm.toArray⟩, u] : Array Value).all (·.oneCell') = true by rw [List.all_toArray, List.all_cons, List.all_cons, hone]; rfl)
          have HNx := Lib.hid (show (Tryz.prog.info? 66).map (·.size) = some (#[Value.string ⟨nm.toArray⟩, u] : Array Value).size by kernel_rfl)
          have HNl := Lib.hid (show (Tryz.prog.info? 66).map (·.size) = some [Value.string ⟨nm.toArray⟩, u].length by kernel_rfl)
          go_wp2_with (first
            | ((with_reducible refine load_range b (o + k * 2) ?_ HX.out Tryz.underlying66 HNl.out ?_ ?_); rfl; rfl)
            | ((with_reducible refine store_new #[Value.string ⟨nm.toArray⟩, u] ?_ ?_ ?_ HNx.out HOne2.out ?_ ?_); rfl; rfl; rfl; rfl; intro V hV hbV hlV; have HOw := Lib.hid (own_below HOw.out hbV); have HB := Lib.hid (bstep HB.out hbV HB.out.size); have g0 := cell_of_row _ _ 0 _ _ _ hV; clear hV hbV hlV)
            | (at_builtin; refine wpList_append_one rfl _ _ 55 rfl W2.heap.size 9 (.string ByteArray.empty) 16 Tryz.underlying55 info9 rfl _ _ _ rfl HOw.out (.string ⟨nm.toArray⟩) rfl rfl (by simp only [maxLen]; omega) (by omega) HB.out.size ?_; intro v' w' ho hb hz hn; have HO2 := Lib.hid ho; have HB2 := Lib.hid (HB.out.trans hb); clear ho hb hz hn))
          go_roundw
          case rel => exact ⟨k + 1, by omega, by go_num, by rw [← HNe.out]; exact HO2.out, HB2.out⟩
          case measure => simp only [intOf]; go_num
        · have hge : ¬ (k : Int) < ts.length := by omega
          have hke : k = ts.length := by omega
          have HS2 : Hid (Sl wr u5 (c.tables.map (·.name)).length ((c.tables.map (·.name)).map fun x => Value.string ⟨x.toArray⟩)) := by
            have h := own_sl HOw.out
            rw [hke, List.take_length] at h
            have e : (c.tables.map (·.name)) = ts.map (·.1.name) := by rw [← HW.out.tab, List.map_map]; rfl
            rw [e, List.length_map, List.map_map]
            exact h
          clear HOw HB HPb
          obtain ⟨B2, bc2, eb2, -, -⟩ := HS2.out
          rw [List.length_map, ← HW.out.tlen] at eb2
          subst eb2
          have HP := Lib.hid (HP.out.below (bnew wr (.cells #[Value.slice B1 c.ifaces.length bc1, .slice B2 ts.length bc2] 55)))
          have HS1 := Lib.hid (HS1.out.below (bnew wr (.cells #[Value.slice B1 c.ifaces.length bc1, .slice B2 ts.length bc2] 55)))
          have HS2 := Lib.hid (HS2.out.below (bnew wr (.cells #[Value.slice B1 c.ifaces.length bc1, .slice B2 ts.length bc2] 55)))
          have HRw := Lib.hid (heap_alloc_new wr (.cells #[Value.slice B1 c.ifaces.length bc1, .slice B2 ts.length bc2] 55))
          go_wp2_with fail
          generalize wr.alloc (.cells #[Value.slice B1 c.ifaces.length bc1, .slice B2 ts.length bc2] 55) = W3 at *
          generalize wr.heap.size = sb at *
          go_loopw [51] (fun s51 wr => ∃ k : Nat, k ≤ 2 ∧ s51 = .int .i64 k ∧ (0 < k → twiceL [] (c.ifaces.map (·.name)) = none) ∧ (1 < k → twiceL [] (c.tables.map (·.name)) = none) ∧ PrT W cs wr ∧ Sl wr (.slice B1 c.ifaces.length bc1) (c.ifaces.map (·.name)).length ((c.ifaces.map (·.name)).map fun x => Value.string ⟨x.toArray⟩) ∧ Sl wr (.slice B2 ts.length bc2) (c.tables.map (·.name)).length ((c.tables.map (·.name)).map fun x => Value.string ⟨x.toArray⟩) ∧ wr.heap[sb]? = some (.cells #[Value.slice B1 c.ifaces.length bc1, .slice B2 ts.length bc2] 55 (0, 0))) (fun s51 _ => 2 - (intOf s51).toNat)
          case atStart => exact ⟨0, by omega, rfl, fun h => absurd h (by omega), fun h => absurd h (by omega), HP.out, HS1.out, HS2.out, HRw.out⟩
          case round =>
            obtain ⟨k, hkl, rfl, h1, h2, hp, hs1, hs2, hrw⟩ := hrel
            have HP := Lib.hid hp
            have H1 := Lib.hid h1
            have H2 := Lib.hid h2
            have HSS : Hid (_ ∧ _ ∧ _) := ⟨hs1, hs2, hrw⟩
            have g0 := cell_of_row _ _ 0 _ _ _ hrw
            have g1 := cell_of_row _ _ 1 _ _ _ hrw
            clear hrw h1 h2 hp
            by_cases hlt : k < 2
            · have hlt' : (k : Int) < 2 := by omega
              rcases (by omega : k = 0 ∨ k = 1) with rfl | rfl
              · have KT := Lib.hid (twice_any _ (by rw [List.length_map]; omega) (.slice B1 c.ifaces.length bc1) wr hs1)
                clear hs1 hs2
                cases hx : twiceL [] (c.ifaces.map (·.name)) with
                | none =>
                  rw [hx] at KT
                  go_wp2_with (go_at_call 35; (with_reducible refine KT.out.mono ?_); rintro e w1 ⟨rfl, rfl⟩; unfold foundV)
                  go_roundw
                  case rel => exact ⟨1, by omega, by go_num, fun _ => by first | exact hx | trivial, fun h => absurd h (by omega), HP.out, HSS.out⟩
                  case measure => simp only [intOf]; go_num
                | some n =>
                  rw [hx] at KT
                  have HV := Lib.hid (show checkV c = .tuple #[.int .i64 8, .string ⟨n.toArray⟩] by unfold checkV; rw [check_if c HQ.out n hx])
                  go_wp2_with (go_at_call 35; (with_reducible refine KT.out.mono ?_); rintro e w1 ⟨rfl, rfl⟩; unfold foundV)
                  go_ret2
                  exact ⟨by rw [HV.out]; rfl, HP.out.low⟩
              · have KT := Lib.hid (twice_any _ (by rw [List.length_map]; have := HW.out.tlen; omega) (.slice B2 ts.length bc2) wr hs2)
                clear hs1 hs2
                cases hx : twiceL [] (c.tables.map (·.name)) with
                | none =>
                  rw [hx] at KT
                  go_wp2_with (go_at_call 35; (with_reducible refine KT.out.mono ?_); rintro e w1 ⟨rfl, rfl⟩; unfold foundV)
                  go_roundw
                  case rel => exact ⟨2, by omega, by go_num, fun _ => H1.out (by omega), fun _ => by first | exact hx | trivial, HP.out, HSS.out⟩
                  case measure => simp only [intOf]; go_num
                | some n =>
                  rw [hx] at KT
                  have HV := Lib.hid (show checkV c = .tuple #[.int .i64 8, .string ⟨n.toArray⟩] by unfold checkV; rw [check_tb c HQ.out n (H1.out (by omega)) hx])
                  go_wp2_with (go_at_call 35; (with_reducible refine KT.out.mono ?_); rintro e w1 ⟨rfl, rfl⟩; unfold foundV)
                  go_ret2
                  exact ⟨by rw [HV.out]; rfl, HP.out.low⟩
            · have hge : ¬ (k : Int) < 2 := by omega
              have HT1 := Lib.hid (H1.out (by omega))
              have HT2 := Lib.hid (H2.out (by omega))
              have q3 := HP.out.cell HD.out.2.2
              clear g0 g1 HSS hs1 hs2
              go_wp2_with fail
              go_loopw [66] (fun s66 wr => ∃ k : Nat, k ≤ c.rules.length ∧ s66 = .int .i64 k ∧ (∀ j z, j < k → c.rules[j]? = some z → wrongOf c z = none) ∧ PrT W cs wr) (fun s66 _ => c.rules.length - (intOf s66).toNat)
              case atStart => exact ⟨0, by omega, rfl, fun j x hj => absurd hj (by omega), HP.out⟩
              case round =>
                obtain ⟨k, hkl, rfl, hno, hp⟩ := hrel
                have HG := Lib.hid hno
                have HP := Lib.hid hp
                clear hno
                by_cases hlt : k < c.rules.length
                · have hlt' : (k : Int) < c.rules.length := by omega
                  have hk63 : (k : Int) + 1 ≤ 9223372036854775807 := by omega
                  obtain ⟨x, hx⟩ : ∃ x, c.rules[k]? = some x := ⟨_, List.getElem?_eq_getElem hlt⟩
                  obtain ⟨b, o, c1, hv1, -, hbl, hr⟩ := HW.out.rules.at rlL_len k x hx
                  injection hv1 with e1 e2 e3
                  subst e1 e3
                  have HX := Lib.hid (range_below hr hp.low hbl)
                  have HNx := Lib.hid (show (Tryz.prog.info? 75).map (·.size) = some (rlL x).toArray.size by unfold rlL; rw [Array.toArray_toList]; exact info32 x)
                  have HNl := Lib.hid (show (Tryz.prog.info? 75).map (·.size) = some (rlL x).length from HNx.out)
                  have HOne := Lib.hid (show (rlL x).toArray.all (·.oneCell') = true by unfold rlL; rw [Array.toArray_toList]; exact rule_one x)
                  have HSz := Lib.hid (show (rlL x).toArray.size = 28 from rfl)
                  have KX := Lib.hid (KU.out x)
                  have KX := Lib.hid (show ∀ W', Below W.heap.size W W' → Calls Tryz.prog 36 #[.agg cs, .agg (rlL x).toArray] W' _ from by unfold rlL; rw [Array.toArray_toList]; exact KX.out)
                  clear hr hp
                  generalize rlL x = fx at *
                  cases hw : wrongOf c x with
                  | none =>
                    have HM := Lib.hid (show ∀ j z, j < k + 1 → c.rules[j]? = some z → wrongOf c z = none from fun j y hj hy => by
                      by_cases e : j = k
                      · subst e; rw [hx] at hy; cases hy; exact hw
                      · exact HG.out j y (by omega) hy)
                    rw [hw] at KX
                    clear hx hw
                    go_wp2_with (first
                      | ((with_reducible refine load_range b (o + k * 28) ?_ HX.out Tryz.underlying75 HNl.out ?_ ?_); rfl; rfl)
                      | ((with_reducible refine store_new fx.toArray ?_ ?_ ?_ HNx.out HOne.out ?_ ?_); rfl; rfl; exact HSz.out; rfl; intro V hV hbV hlV; have HP := Lib.hid (HP.out.below hbV); have HR := Lib.hid hV; clear hV hbV hlV)
                      | ((with_reducible refine Mem.load_row W.heap.size ?_ HP.out.box Tryz.underlying27 HN.out ?_ ?_); rfl; rfl)
                      | ((with_reducible refine Mem.load_row wr.heap.size ?_ HR.out Tryz.underlying75 HNx.out ?_ ?_); rfl; rfl)
                      | (go_at_call 36; (with_reducible refine (KX.out _ HP.out.low).mono ?_); rintro e w1 ⟨rfl, hb1⟩; have HP := Lib.hid (HP.out.below hb1); unfold foundV; clear hb1))
                    go_roundw
                    case rel => exact ⟨k + 1, by omega, by go_num, HM.out, HP.out⟩
                    case measure => simp only [intOf]; go_num
                  | some n =>
                    have HV := Lib.hid (show checkV c = .tuple #[.int .i64 8, .string ⟨n.toArray⟩] by unfold checkV; rw [check_rl c HQ.out n HT1.out HT2.out (some_hit (wrongOf c) c.rules k x n hx hw HG.out)])
                    rw [hw] at KX
                    clear hx hw
                    go_wp2_with (first
                      | ((with_reducible refine load_range b (o + k * 28) ?_ HX.out Tryz.underlying75 HNl.out ?_ ?_); rfl; rfl)
                      | ((with_reducible refine store_new fx.toArray ?_ ?_ ?_ HNx.out HOne.out ?_ ?_); rfl; rfl; exact HSz.out; rfl; intro V hV hbV hlV; have HP := Lib.hid (HP.out.below hbV); have HR := Lib.hid hV; clear hV hbV hlV)
                      | ((with_reducible refine Mem.load_row W.heap.size ?_ HP.out.box Tryz.underlying27 HN.out ?_ ?_); rfl; rfl)
                      | ((with_reducible refine Mem.load_row wr.heap.size ?_ HR.out Tryz.underlying75 HNx.out ?_ ?_); rfl; rfl)
                      | (go_at_call 36; (with_reducible refine (KX.out _ HP.out.low).mono ?_); rintro e w1 ⟨rfl, hb1⟩; have HP := Lib.hid (HP.out.below hb1); unfold foundV; clear hb1))
                    go_ret2
                    exact ⟨by rw [HV.out]; rfl, HP.out.low⟩
                · have hge : ¬ (k : Int) < c.rules.length := by omega
                  have hke : k = c.rules.length := by omega
                  have HG2 : Hid (∀ j z, j < c.rules.length → c.rules[j]? = some z → wrongOf c z = none) := by rw [← hke]; exact HG.out
                  have HV := Lib.hid (show checkV c = .tuple #[.int .i64 0, .string ⟨#[]⟩] by unfold checkV; rw [check_ok c HQ.out HT1.out HT2.out (some_miss (wrongOf c) c.rules HG2.out)])
                  go_wp2_with fail
                  go_ret2
                  exact ⟨by rw [HV.out]; rfl, hp.low⟩
end Go.Proofs.YtnmbbnhgoedjgaaGreatDoor.CgC

namespace Go.Proofs.YtnmbbnhgoedjgaaGreatDoor.Cg7
open Go Go.RowKit Go.Proofs.YtnmbbnhgoedjgaaGreatDoor.Ad0 Go.Proofs.YtnmbbnhgoedjgaaGreatDoor.Ad1 Go.Proofs.YtnmbbnhgoedjgaaGreatDoor.St2 Go.Proofs.YtnmbbnhgoedjgaaGreatDoor.Ru0 Go.Proofs.YtnmbbnhgoedjgaaGreatDoor.Ru1 Go.Proofs.YtnmbbnhgoedjgaaGreatDoor.Ru6 Go.Proofs.YtnmbbnhgoedjgaaGreatDoor.RuB Go.Proofs.YtnmbbnhgoedjgaaGreatDoor.RuC Go.Proofs.YtnmbbnhgoedjgaaGreatDoor.RuQ Go.Proofs.YtnmbbnhgoedjgaaGreatDoor.RuS Go.Proofs.YtnmbbnhgoedjgaaGreatDoor.RuY Go.Proofs.YtnmbbnhgoedjgaaGreatDoor.Cf0 Go.Proofs.YtnmbbnhgoedjgaaGreatDoor.Cf4 Go.Proofs.YtnmbbnhgoedjgaaGreatDoor.Cg0 Go.Proofs.YtnmbbnhgoedjgaaGreatDoor.RuX Go.Proofs.YtnmbbnhgoedjgaaGreatDoor.Cg5 Go.Proofs.YtnmbbnhgoedjgaaGreatDoor.CfA Go.Proofs.YtnmbbnhgoedjgaaGreatDoor.Cg6
set_option linter.unusedVariables false
set_option linter.unusedSimpArgs false
theorem info6 (v0 v1 v2 v3 : Value) (c : ConfM) : (Tryz.prog.info? 27).map (·.size) = some (confC v0 v1 v2 v3 c).size := by kernel_rfl
theorem all_at {α : Type} (p : α → Bool) (l : List α) (h : ∀ j x, j < l.length → l[j]? = some x → p x = true) : l.all p = true := by
  rw [List.all_eq_true]
  intro x hx
  obtain ⟨j, hj, rfl⟩ := List.mem_iff_getElem.1 hx
  exact h j _ hj (List.getElem?_eq_getElem hj)
theorem not_at {α : Type} (p : α → Bool) (l : List α) (j : Nat) (x : α) (hx : l[j]? = some x) (h : p x = false) : l.all p = false := by
  rw [List.all_eq_false]
  exact ⟨x, List.mem_of_getElem? hx, by rw [h]; decide⟩
set_option maxRecDepth 20000 in
set_option maxHeartbeats 8000000 in
theorem ris_conf (KPR : RPrintSaid) (c : ConfM) (v0 v1 v2 v3 : Value) (ts : List (NamedM × Value)) (W : World) (h : ConfIn W v0 v1 v2 v3 ts c) (hf : FitC c) (hl : LibOK W) :
    Calls Tryz.prog 20 #[.agg (confC v0 v1 v2 v3 c)] W fun e w' => e = .returned (.bool (isC c)) ∧ Below W.heap.size W w' := by
  have HN := Lib.hid (info6 v0 v1 v2 v3 c)
  have HW := Lib.hid h
  have HL := Lib.hid (fun W' (hb : Below W.heap.size W W') => hl.below hb)
  have HO := Lib.hid hf
  have K8 := Lib.hid (fun W' (hb : Below W.heap.size W W') => refPrefs_any c.bogons hf.ok.bogons (by have := hf.nb; omega) v1 W' (h.below hb).bogons)
  have KT := Lib.hid (fun W' (hb : Below W.heap.size W W') (hc : isC0 c = true) => text_any KPR c v0 v1 v2 v3 ts W' (h.below hb) hf hc (hl.below hb))
  rw [prefsB_ok] at K8
  rw [isC_split]
  generalize hb8 : prefsOK c.bogons = b8 at K8
  obtain ⟨A0, cap0, e0, -, -⟩ := h.ifaces
  obtain ⟨A2, cap2, e2, -, -⟩ := h.tables
  obtain ⟨A3, cap3, e3, -, -⟩ := h.rules
  subst e0 e2 e3
  clear hl h hf
  generalize hcs : confC (.slice A0 c.ifaces.length cap0) v1 (.slice A2 ts.length cap2) (.slice A3 c.rules.length cap3) c = cs at *
  have d0 : cs[0]? = some (.slice A0 c.ifaces.length cap0) := by rw [← hcs]; rfl
  have d1 : cs[1]? = some v1 := by rw [← hcs]; rfl
  have d2 : cs[2]? = some (.slice A2 ts.length cap2) := by rw [← hcs]; rfl
  have d3 : cs[3]? = some (.slice A3 c.rules.length cap3) := by rw [← hcs]; rfl
  have d4 : cs[4]? = some (.int .i64 c.flows) := by rw [← hcs]; rfl
  have d5 : cs[5]? = some (.int .i64 c.errors) := by rw [← hcs]; rfl
  have HD : Hid (_ ∧ _ ∧ _ ∧ _ ∧ _ ∧ _) := ⟨d0, d1, d2, d3, d4, d5⟩
  clear hcs d0 d1 d2 d3 d4 d5
  have HP : Hid (PrT W cs (W.alloc (.cells cs 27))) := ⟨heap_alloc_new W _, bnew W _, by simp⟩
  have q0 := HP.out.cell HD.out.1
  have q1 := HP.out.cell HD.out.2.1
  have q3 := HP.out.cell HD.out.2.2.2.1
  have q4 := HP.out.cell HD.out.2.2.2.2.1
  have q5 := HP.out.cell HD.out.2.2.2.2.2
  by_cases p0 : c.flows < 1
  · have HC := Lib.hid (isC0_not (c := c) (fun h => by have := h.f0; omega))
    go_enter Tryz.func20, Tryz.ntmps20
    go_wp2_with (go_at_call 48; (with_reducible refine (K8.out _ HP.out.low).mono ?_); rintro e w1 ⟨rfl, hb1⟩; have HP := Lib.hid (HP.out.below hb1); have q0 := HP.out.cell HD.out.1; have q3 := HP.out.cell HD.out.2.2.2.1; clear hb1)
    go_ret
    exact ⟨by rw [HC.out]; rfl, HP.out.low⟩
  by_cases p1 : 64 < c.flows
  · have HC := Lib.hid (isC0_not (c := c) (fun h => by have := h.f1; omega))
    go_enter Tryz.func20, Tryz.ntmps20
    go_wp2_with (go_at_call 48; (with_reducible refine (K8.out _ HP.out.low).mono ?_); rintro e w1 ⟨rfl, hb1⟩; have HP := Lib.hid (HP.out.below hb1); have q0 := HP.out.cell HD.out.1; have q3 := HP.out.cell HD.out.2.2.2.1; clear hb1)
    go_ret
    exact ⟨by rw [HC.out]; rfl, HP.out.low⟩
  by_cases p2 : c.errors < 0
  · have HC := Lib.hid (isC0_not (c := c) (fun h => by have := h.e0; omega))
    go_enter Tryz.func20, Tryz.ntmps20
    go_wp2_with (go_at_call 48; (with_reducible refine (K8.out _ HP.out.low).mono ?_); rintro e w1 ⟨rfl, hb1⟩; have HP := Lib.hid (HP.out.below hb1); have q0 := HP.out.cell HD.out.1; have q3 := HP.out.cell HD.out.2.2.2.1; clear hb1)
    go_ret
    exact ⟨by rw [HC.out]; rfl, HP.out.low⟩
  by_cases p3 : 100 < c.errors
  · have HC := Lib.hid (isC0_not (c := c) (fun h => by have := h.e1; omega))
    go_enter Tryz.func20, Tryz.ntmps20
    go_wp2_with (go_at_call 48; (with_reducible refine (K8.out _ HP.out.low).mono ?_); rintro e w1 ⟨rfl, hb1⟩; have HP := Lib.hid (HP.out.below hb1); have q0 := HP.out.cell HD.out.1; have q3 := HP.out.cell HD.out.2.2.2.1; clear hb1)
    go_ret
    exact ⟨by rw [HC.out]; rfl, HP.out.low⟩
  by_cases p4 : (c.ifaces.length : Int) < 1
  · have HC := Lib.hid (isC0_not (c := c) (fun h => by have := h.i0; omega))
    go_enter Tryz.func20, Tryz.ntmps20
    go_wp2_with (go_at_call 48; (with_reducible refine (K8.out _ HP.out.low).mono ?_); rintro e w1 ⟨rfl, hb1⟩; have HP := Lib.hid (HP.out.below hb1); have q0 := HP.out.cell HD.out.1; have q3 := HP.out.cell HD.out.2.2.2.1; clear hb1)
    go_ret
    exact ⟨by rw [HC.out]; rfl, HP.out.low⟩
  by_cases p5 : 8 < (c.ifaces.length : Int)
  · have HC := Lib.hid (isC0_not (c := c) (fun h => by have := h.i1; omega))
    go_enter Tryz.func20, Tryz.ntmps20
    go_wp2_with (go_at_call 48; (with_reducible refine (K8.out _ HP.out.low).mono ?_); rintro e w1 ⟨rfl, hb1⟩; have HP := Lib.hid (HP.out.below hb1); have q0 := HP.out.cell HD.out.1; have q3 := HP.out.cell HD.out.2.2.2.1; clear hb1)
    go_ret
    exact ⟨by rw [HC.out]; rfl, HP.out.low⟩
  cases b8 with
  | false =>
    have HC := Lib.hid (isC0_not (c := c) (fun h => by have := h.bogons; rw [hb8] at this; cases this))
    go_enter Tryz.func20, Tryz.ntmps20
    go_wp2_with (go_at_call 48; (with_reducible refine (K8.out _ HP.out.low).mono ?_); rintro e w1 ⟨rfl, hb1⟩; have HP := Lib.hid (HP.out.below hb1); have q0 := HP.out.cell HD.out.1; have q3 := HP.out.cell HD.out.2.2.2.1; clear hb1)
    go_ret
    exact ⟨by rw [HC.out]; rfl, HP.out.low⟩
  | true =>
  by_cases p7 : 64 < (c.rules.length : Int)
  · have HC := Lib.hid (isC0_not (c := c) (fun h => by have := h.nr; omega))
    go_enter Tryz.func20, Tryz.ntmps20
    go_wp2_with (go_at_call 48; (with_reducible refine (K8.out _ HP.out.low).mono ?_); rintro e w1 ⟨rfl, hb1⟩; have HP := Lib.hid (HP.out.below hb1); have q0 := HP.out.cell HD.out.1; have q3 := HP.out.cell HD.out.2.2.2.1; clear hb1)
    go_ret
    exact ⟨by rw [HC.out]; rfl, HP.out.low⟩
  go_enter Tryz.func20, Tryz.ntmps20
  go_wp2_with (go_at_call 48; (with_reducible refine (K8.out _ HP.out.low).mono ?_); rintro e w1 ⟨rfl, hb1⟩; have HP := Lib.hid (HP.out.below hb1); have q0 := HP.out.cell HD.out.1; have q3 := HP.out.cell HD.out.2.2.2.1; clear hb1)
  go_loopw [3] (fun s3 wr => ∃ k : Nat, k ≤ c.ifaces.length ∧ s3 = .int .i64 k ∧ (∀ j x, j < k → c.ifaces[j]? = some x → isI x = true) ∧ PrT W cs wr) (fun s3 _ => c.ifaces.length - (intOf s3).toNat)
  case atStart => exact ⟨0, by omega, rfl, fun j x hj => absurd hj (by omega), HP.out⟩
  case round =>
    obtain ⟨k, hkl, rfl, hno, hp⟩ := hrel
    have HG := Lib.hid hno
    have HP := Lib.hid hp
    clear q0 q1 q3 q4 q5 hno
    have q0 := hp.cell HD.out.1
    by_cases hlt : k < c.ifaces.length
    · have hlt' : (k : Int) < c.ifaces.length := by omega
      have hk63 : (k : Int) + 1 ≤ 9223372036854775807 := by have := HO.out.ni; omega
      obtain ⟨x, hx⟩ : ∃ x, c.ifaces[k]? = some x := ⟨_, List.getElem?_eq_getElem hlt⟩
      have hxm := List.mem_of_getElem? hx
      obtain ⟨b, o, c1, hv1, -, hbl, hr⟩ := HW.out.ifaces.at ifL_len k x hx
      injection hv1 with e1 e2 e3
      subst e1 e3
      have HX := Lib.hid (range_below hr hp.low hbl)
      have HNl := Lib.hid (show (Tryz.prog.info? 45).map (·.size) = some (ifL x).length by kernel_rfl)
      have KI := Lib.hid (fun W' => riface_any x (by have := HO.out.il x hxm; omega) (HO.out.ok.ifaces x hxm) W')
      clear hr hxm
      cases hq : isI x with
      | false =>
        have HC := Lib.hid (isC0_not (c := c) (fun h => by have := h.ifaces; rw [not_at isI c.ifaces k x hx hq] at this; cases this))
        rw [hq] at KI
        go_wp2_with (first
          | ((with_reducible refine load_range b (o + k * 5) ?_ HX.out Tryz.underlying45 HNl.out ?_ ?_); rfl; rfl)
          | (go_at_call 49; (with_reducible refine (KI.out _).mono ?_); rintro e w1 ⟨rfl, hb1⟩; have HP := Lib.hid (HP.out.below hb1); clear hb1))
        go_ret
        exact ⟨by rw [HC.out]; rfl, HP.out.low⟩
      | true =>
        have HM := Lib.hid (show ∀ j y, j < k + 1 → c.ifaces[j]? = some y → isI y = true from fun j y hj hy => by
          by_cases e : j = k
          · subst e; rw [hx] at hy; cases hy; exact hq
          · exact HG.out j y (by omega) hy)
        rw [hq] at KI
        go_wp2_with (first
          | ((with_reducible refine load_range b (o + k * 5) ?_ HX.out Tryz.underlying45 HNl.out ?_ ?_); rfl; rfl)
          | (go_at_call 49; (with_reducible refine (KI.out _).mono ?_); rintro e w1 ⟨rfl, hb1⟩; have HP := Lib.hid (HP.out.below hb1); clear hb1))
        go_roundw
        case rel => exact ⟨k + 1, by omega, by go_num, HM.out, HP.out⟩
        case measure => simp only [intOf]; go_num
    · obtain rfl : k = c.ifaces.length := by omega
      have HA1 := Lib.hid (all_at isI c.ifaces HG.out)
      clear HG
      go_wp2_with fail
      go_loopw [4] (fun s4 wr => ∃ k : Nat, k ≤ ts.length ∧ s4 = .int .i64 k ∧ (∀ j x, j < k → c.tables[j]? = some x → (nameL x.name && prefsOK x.l) = true) ∧ PrT W cs wr) (fun s4 _ => ts.length - (intOf s4).toNat)
      case atStart => exact ⟨0, by omega, rfl, fun j x hj => absurd hj (by omega), HP.out⟩
      case round =>
        obtain ⟨k, hkl, rfl, hno, hp⟩ := hrel
        have HG := Lib.hid hno
        have HP := Lib.hid hp
        clear q0 hno
        have q2 := hp.cell HD.out.2.2.1
        by_cases hlt : k < ts.length
        · have hlt' : (k : Int) < ts.length := by omega
          have hk63 : (k : Int) + 1 ≤ 9223372036854775807 := by have := HO.out.nt; have := HW.out.tlen; omega
          obtain ⟨t, hx⟩ : ∃ t, ts[k]? = some t := ⟨_, List.getElem?_eq_getElem hlt⟩
          have hxm := List.mem_of_getElem? hx
          have hxt : c.tables[k]? = some t.1 := by rw [← HW.out.tab, List.getElem?_map, hx]; rfl
          have htm := List.mem_of_getElem? hxt
          obtain ⟨b, o, c1, hv1, -, hbl, hr⟩ := HW.out.tables.at nmL_len k t hx
          injection hv1 with e1 e2 e3
          subst e1 e3
          have HX0 := Lib.hid hr
          have hbl0 := hbl
          have HTin := Lib.hid (HW.out.tin t hxm)
          have htl := HO.out.tl t.1 htm
          have HPo := Lib.hid (HO.out.ok.tables t.1 htm)
          clear hr hxm hx htm
          obtain ⟨⟨nm, l⟩, u⟩ := t
          dsimp only at HTin HPo htl hxt
          have g0 : wr.cell? ⟨b, o + k * 2, none⟩ = some (.string ⟨nm.toArray⟩) := range_below HX0.out hp.low hbl0 0 _ rfl
          have g1 : wr.cell? ⟨b, o + k * 2 + 1, none⟩ = some u := range_below HX0.out hp.low hbl0 1 _ rfl
          have KN := Lib.hid (fun W' => rname_any ⟨nm.toArray⟩ (by have := htl.1; simp [ByteArray.size]; omega) W')
          have hn : (⟨nm.toArray⟩ : ByteArray).data.toList = nm := rfl
          rw [hn] at KN
          have KL := Lib.hid (fun W' (hb : Below W.heap.size W W') => refPrefs_any l HPo.out (by have := htl.2; omega) u W' (HTin.out.below hb))
          rw [prefsB_ok] at KL
          clear hn
          cases hq : nameL nm with
          | false =>
            have HC := Lib.hid (isC0_not (c := c) (fun h => by have := h.tables; rw [not_at (fun t => nameL t.name && prefsOK t.l) c.tables k ⟨nm, l⟩ hxt (by rw [hq]; rfl)] at this; cases this))
            rw [hq] at KN
            go_wp2_with (first
              | (go_at_call 50; (with_reducible refine (KN.out _).mono ?_); rintro e w1 ⟨rfl, rfl⟩))
            go_ret
            exact ⟨by rw [HC.out]; rfl, HP.out.low⟩
          | true =>
          cases hq2 : prefsOK l with
          | false =>
            have HC := Lib.hid (isC0_not (c := c) (fun h => by have := h.tables; rw [not_at (fun t => nameL t.name && prefsOK t.l) c.tables k ⟨nm, l⟩ hxt (by rw [hq, hq2]; rfl)] at this; cases this))
            rw [hq] at KN
            rw [hq2] at KL
            go_wp2_with (first
              | (go_at_call 50; (with_reducible refine (KN.out _).mono ?_); rintro e w1 ⟨rfl, rfl⟩)
              | (go_at_call 48; (with_reducible refine (KL.out _ HP.out.low).mono ?_); rintro e w1 ⟨rfl, hb1⟩; have HP := Lib.hid (HP.out.below hb1); clear hb1))
            go_ret
            exact ⟨by rw [HC.out]; rfl, HP.out.low⟩
          | true =>
            have HM := Lib.hid (show ∀ j y, j < k + 1 → c.tables[j]? = some y → (nameL y.name && prefsOK y.l) = true from fun j y hj hy => by
              by_cases e : j = k
              · subst e; rw [hxt] at hy; cases hy; rw [hq, hq2]; rfl
              · exact HG.out j y (by omega) hy)
            rw [hq] at KN
            rw [hq2] at KL
            go_wp2_with (first
              | (go_at_call 50; (with_reducible refine (KN.out _).mono ?_); rintro e w1 ⟨rfl, rfl⟩)
              | (go_at_call 48; (with_reducible refine (KL.out _ HP.out.low).mono ?_); rintro e w1 ⟨rfl, hb1⟩; have HP := Lib.hid (HP.out.below hb1); clear hb1))
            go_roundw
            case rel => exact ⟨k + 1, by omega, by go_num, HM.out, HP.out⟩
            case measure => simp only [intOf]; go_num
        · obtain rfl : k = ts.length := by omega
          have HA2 := Lib.hid (all_at (fun t => nameL t.name && prefsOK t.l) c.tables (by rw [← HW.out.tlen]; exact HG.out))
          clear HG
          go_wp2_with fail
          go_loopw [5] (fun s5 wr => ∃ k : Nat, k ≤ c.rules.length ∧ s5 = .int .i64 k ∧ (∀ j x, j < k → c.rules[j]? = some x → ruleR x = true) ∧ PrT W cs wr) (fun s5 _ => c.rules.length - (intOf s5).toNat)
          case atStart => exact ⟨0, by omega, rfl, fun j x hj => absurd hj (by omega), HP.out⟩
          case round =>
            obtain ⟨k, hkl, rfl, hno, hp⟩ := hrel
            have HG := Lib.hid hno
            have HP := Lib.hid hp
            clear q2 hno
            have q3 := hp.cell HD.out.2.2.2.1
            by_cases hlt : k < c.rules.length
            · have hlt' : (k : Int) < c.rules.length := by omega
              have hk63 : (k : Int) + 1 ≤ 9223372036854775807 := by have := HO.out.nr; omega
              obtain ⟨x, hx⟩ : ∃ x, c.rules[k]? = some x := ⟨_, List.getElem?_eq_getElem hlt⟩
              have hxm := List.mem_of_getElem? hx
              obtain ⟨b, o, c1, hv1, -, hbl, hr⟩ := HW.out.rules.at rlL_len k x hx
              injection hv1 with e1 e2 e3
              subst e1 e3
              have HX := Lib.hid (range_below hr hp.low hbl)
              have HNl := Lib.hid (show (Tryz.prog.info? 75).map (·.size) = some (rlL x).length from info32 x)
              have KI := Lib.hid (fun W' => isR_any x (HO.out.ok.rules x hxm) W')
              have KI := Lib.hid (show ∀ W', Calls Tryz.prog 51 #[.agg (rlL x).toArray] W' _ from by unfold rlL; rw [Array.toArray_toList]; exact KI.out)
              clear hr hxm
              generalize rlL x = fx at *
              cases hq : ruleR x with
              | false =>
                have HC := Lib.hid (isC0_not (c := c) (fun h => by have := h.rules; rw [not_at ruleR c.rules k x hx hq] at this; cases this))
                rw [hq] at KI
                go_wp2_with (first
                  | ((with_reducible refine load_range b (o + k * 28) ?_ HX.out Tryz.underlying75 HNl.out ?_ ?_); rfl; rfl)
                  | (go_at_call 51; (with_reducible refine (KI.out _).mono ?_); rintro e w1 ⟨rfl, hb1⟩; have HP := Lib.hid (HP.out.below hb1); clear hb1))
                go_ret
                exact ⟨by rw [HC.out]; rfl, HP.out.low⟩
              | true =>
                have HM := Lib.hid (show ∀ j y, j < k + 1 → c.rules[j]? = some y → ruleR y = true from fun j y hj hy => by
                  by_cases e : j = k
                  · subst e; rw [hx] at hy; cases hy; exact hq
                  · exact HG.out j y (by omega) hy)
                rw [hq] at KI
                go_wp2_with (first
                  | ((with_reducible refine load_range b (o + k * 28) ?_ HX.out Tryz.underlying75 HNl.out ?_ ?_); rfl; rfl)
                  | (go_at_call 51; (with_reducible refine (KI.out _).mono ?_); rintro e w1 ⟨rfl, hb1⟩; have HP := Lib.hid (HP.out.below hb1); clear hb1))
                go_roundw
                case rel => exact ⟨k + 1, by omega, by go_num, HM.out, HP.out⟩
                case measure => simp only [intOf]; go_num
            · obtain rfl : k = c.rules.length := by omega
              have HC := Lib.hid (isC0_of c ⟨by omega, by omega, by omega, by omega, by omega, by omega, by omega, hb8, HA1.out, HA2.out, all_at ruleR c.rules HG.out⟩)
              have HT := Lib.hid (show decide (((textC c).toArray.size : Int) ≤ 8192) = (isC0 c && decide ((textC c).length ≤ 8192)) by rw [HC.out, Bool.true_and, List.size_toArray, decide_eq_decide]; omega)
              go_wp2_with (first
                | ((with_reducible refine Mem.load_row W.heap.size ?_ HP.out.box Tryz.underlying27 HN.out ?_ ?_); rfl; rfl)
                | (go_at_call 37; (with_reducible refine (KT.out _ HP.out.low HC.out).mono ?_); rintro e w1 ⟨rfl, hb1⟩; have HP := Lib.hid (HP.out.below hb1); clear hb1))
              go_ret
              exact ⟨by rw [← HT.out]; rfl, HP.out.low⟩
set_option maxRecDepth 20000 in
theorem rprint_conf (KPR : RPrintSaid) (c : ConfM) (v0 v1 v2 v3 : Value) (ts : List (NamedM × Value)) (W : World) (h : ConfIn W v0 v1 v2 v3 ts c) (hf : FitC c) (hl : LibOK W) :
    Calls Tryz.prog 18 #[.agg (confC v0 v1 v2 v3 c)] W fun e w' => e = .returned (.string ⟨(if isC c then textC c else []).toArray⟩) ∧ Below W.heap.size W w' := by
  have HP : Hid (PrT W (confC v0 v1 v2 v3 c) (W.alloc (.cells (confC v0 v1 v2 v3 c) 27))) := ⟨heap_alloc_new W _, bnew W _, by simp⟩
  have HN := Lib.hid (info6 v0 v1 v2 v3 c)
  have K1 := Lib.hid (fun W' (hb : Below W.heap.size W W') => ris_conf KPR c v0 v1 v2 v3 ts W' (h.below hb) hf (hl.below hb))
  have K2 := Lib.hid (fun W' (hb : Below W.heap.size W W') (hc : isC0 c = true) => text_any KPR c v0 v1 v2 v3 ts W' (h.below hb) hf hc (hl.below hb))
  have HC : isC c = true → isC0 c = true := fun h => by rw [isC_split] at h; simp only [Bool.and_eq_true] at h; exact h.1
  generalize confC v0 v1 v2 v3 c = cs at *
  clear h hl
  cases hq : isC c
  all_goals
    rw [hq] at K1 HC
    have HC := Lib.hid HC
    go_enter Tryz.func18, Tryz.ntmps18
    go_wp2_with (first
      | ((with_reducible refine Mem.load_row W.heap.size ?_ HP.out.box Tryz.underlying27 HN.out ?_ ?_); rfl; rfl)
      | (go_at_call 20; (with_reducible refine (K1.out _ HP.out.low).mono ?_); rintro e w1 ⟨rfl, hb1⟩; have HP := Lib.hid (HP.out.below hb1); clear hb1)
      | (go_at_call 37; (with_reducible refine (K2.out _ HP.out.low (HC.out (by trivial))).mono ?_); rintro e w1 ⟨rfl, hb1⟩; have HP := Lib.hid (HP.out.below hb1); clear hb1))
    go_ret
    exact ⟨rfl, HP.out.low⟩
end Go.Proofs.YtnmbbnhgoedjgaaGreatDoor.Cg7

