/- castellanlaw20.heavy. A configuration that is not heavy is small where it may be. -/
import Derived.Test.YtnmbbnhgoedjgaaGreatDoorQCkO
import Derived.Test.YtnmbbnhgoedjgaaGreatDoorQCgR
import Derived.Test.YtnmbbnhgoedjgaaGreatDoorQCg5
import Derived.Test.YtnmbbnhgoedjgaaGreatDoorQCgM
import Derived.Test.YtnmbbnhgoedjgaaGreatDoorQChc
import Derived.Deep.DeepCutAuto
namespace Go.Proofs.YtnmbbnhgoedjgaaGreatDoor.Ck1
open Go Go.RowKit Go.Proofs.YtnmbbnhgoedjgaaGreatDoor.Ad1 Go.Proofs.YtnmbbnhgoedjgaaGreatDoor.St2 Go.Proofs.YtnmbbnhgoedjgaaGreatDoor.Ru0 Go.Proofs.YtnmbbnhgoedjgaaGreatDoor.Ru1 Go.Proofs.YtnmbbnhgoedjgaaGreatDoor.Ru6 Go.Proofs.YtnmbbnhgoedjgaaGreatDoor.RuB Go.Proofs.YtnmbbnhgoedjgaaGreatDoor.RuC Go.Proofs.YtnmbbnhgoedjgaaGreatDoor.RuY Go.Proofs.YtnmbbnhgoedjgaaGreatDoor.RuYa Go.Proofs.YtnmbbnhgoedjgaaGreatDoor.Cf0 Go.Proofs.YtnmbbnhgoedjgaaGreatDoor.Cf4 Go.Proofs.YtnmbbnhgoedjgaaGreatDoor.Cg0 Go.Proofs.YtnmbbnhgoedjgaaGreatDoor.CkO Go.Proofs.YtnmbbnhgoedjgaaGreatDoor.CgQ Go.Proofs.YtnmbbnhgoedjgaaGreatDoor.RuX Go.Proofs.YtnmbbnhgoedjgaaGreatDoor.CgM Go.Proofs.YtnmbbnhgoedjgaaGreatDoor.Cg5 Go.Proofs.YtnmbbnhgoedjgaaGreatDoor.Ch4 Go.Proofs.YtnmbbnhgoedjgaaGreatDoor.Ch7 Go.Proofs.YtnmbbnhgoedjgaaGreatDoor.CgB Go.Proofs.YtnmbbnhgoedjgaaGreatDoor.CgL
set_option linter.unusedVariables false
set_option linter.unusedSimpArgs false
def zN (w : Wd) : Int := ((⟨w.toArray⟩ : ByteArray).size : Int)
theorem zN_eq (w : Wd) : zN w = (w.length : Nat) := by
  unfold zN
  rw [show (⟨w.toArray⟩ : ByteArray).size = w.length from List.size_toArray]
def stI (n : Int) (x : IfaceM) : Int := wrap64 (wrap64 (n + 10) + zN x.name)
def stT (n : Int) (x : NamedM) : Int := wrap64 (wrap64 (wrap64 (n + 10) + zN x.name) + wrap64 (4 * (x.l.length : Nat)))
def stR (n : Int) (r : RuleM) : Int := wrap64 (wrap64 (wrap64 (wrap64 (wrap64 (wrap64 (n + 20) + zN r.on) + zN r.frm.table) + zN r.dst.table) + zN r.routeTo.iface) + zN r.replyTo.iface)
def heavyN (c : ConfM) : Int := c.rules.foldl stR (c.tables.foldl stT (c.ifaces.foldl stI 0))
/-- As the code reckons it. -/
def heavyF (c : ConfM) : Bool := if 2000 < heavyN c then true else decide (100 < c.bogons.length)
theorem fold_snoc {α : Type} (f : Int → α → Int) (l : List α) (a : Int) (k : Nat) (x : α) (h : l[k]? = some x) : (l.take (k + 1)).foldl f a = f ((l.take k).foldl f a) x := by
  rw [List.take_add_one, h, List.foldl_append]
  rfl
theorem wrap_id (n : Int) (h0 : -9223372036854775808 ≤ n) (h1 : n ≤ 9223372036854775807) : wrap64 n = n := by
  unfold wrap64
  omega
/-- No sum wraps where the names are short. -/
theorem fold_le {α : Type} (f : Int → α → Int) (M : Nat) (l : List α) (a : Int) (h0 : 0 ≤ a) (hM : a + M * l.length ≤ 9000000000000000000) (hf : ∀ n x, x ∈ l → 0 ≤ n → n ≤ 9000000000000000000 → n + 10 ≤ f n x ∧ f n x ≤ n + M) :
    a + 10 * l.length ≤ l.foldl f a ∧ l.foldl f a ≤ a + M * l.length := by
  induction l generalizing a with
  | nil => simp
  | cons x t ih =>
    rw [List.length_cons] at hM ⊢
    have hMt : (M : Int) * ((t.length + 1 : Nat) : Int) = M * t.length + M := by push_cast; rw [Int.mul_add, Int.mul_one]
    rw [hMt] at hM ⊢
    have hp : (0 : Int) ≤ M * t.length := Int.mul_nonneg (by omega) (by omega)
    have h1 := hf a x (by simp) h0 (by omega)
    have h2 := ih (f a x) (by omega) (by omega) (fun n y hy => hf n y (List.mem_cons_of_mem _ hy))
    rw [List.foldl_cons]
    push_cast
    omega
/-- The argument's box, and a row that is read. -/
structure PrH (W : World) (cs : Array Value) (b o : Nat) (l : List Value) (w : World) : Prop where
  pr : PrT W cs w
  r1 : w.rangeAt b o l
  h1 : b < w.heap.size
theorem PrH.below {W : World} {cs : Array Value} {b o : Nat} {l : List Value} {w w' : World} (h : PrH W cs b o l w) (hb : Below w.heap.size w w') : PrH W cs b o l w' :=
  ⟨h.pr.below hb, range_below h.r1 hb h.h1, Nat.lt_of_lt_of_le h.h1 hb.size⟩
theorem PrH.a0 {W : World} {cs : Array Value} {b o : Nat} {v : Value} {l : List Value} {w : World} (h : PrH W cs b o (v :: l) w) : w.cell? ⟨b, o, none⟩ = some v := h.r1 0 v rfl
theorem PrH.a1 {W : World} {cs : Array Value} {b o : Nat} {u v : Value} {l : List Value} {w : World} (h : PrH W cs b o (u :: v :: l) w) : w.cell? ⟨b, o + 1, none⟩ = some v := h.r1 1 v rfl
set_option maxRecDepth 20000 in
set_option maxHeartbeats 8000000 in
theorem heavy_any (c : ConfM) (v0 v1 v2 v3 : Value) (ts : List (NamedM × Value)) (W : World) (h : ConfIn W v0 v1 v2 v3 ts c) (hf : WideC c) :
    Calls Tryz.prog 13 #[.agg (confC v0 v1 v2 v3 c)] W fun e w' => e = .returned (.bool (heavyF c)) ∧ Below W.heap.size W w' := by
  have HW := Lib.hid h
  have hni := hf.ni
  have hnt : ts.length ≤ 140737488355328 := by have := hf.nt; have := h.tlen; omega
  have hnr := hf.nr
  obtain ⟨A0, cap0, e0, -, -⟩ := h.ifaces
  obtain ⟨A1, cap1, e1, -, -⟩ := h.bogons
  obtain ⟨A2, cap2, e2, -, -⟩ := h.tables
  obtain ⟨A3, cap3, e3, -, -⟩ := h.rules
  subst e0 e1 e2 e3
  have c0 : (confC (.slice A0 c.ifaces.length cap0) (.slice A1 c.bogons.length cap1) (.slice A2 ts.length cap2) (.slice A3 c.rules.length cap3) c)[0]? = some (.slice A0 c.ifaces.length cap0) := rfl
  have c1 : (confC (.slice A0 c.ifaces.length cap0) (.slice A1 c.bogons.length cap1) (.slice A2 ts.length cap2) (.slice A3 c.rules.length cap3) c)[1]? = some (.slice A1 c.bogons.length cap1) := rfl
  have c2 : (confC (.slice A0 c.ifaces.length cap0) (.slice A1 c.bogons.length cap1) (.slice A2 ts.length cap2) (.slice A3 c.rules.length cap3) c)[2]? = some (.slice A2 ts.length cap2) := rfl
  have c3 : (confC (.slice A0 c.ifaces.length cap0) (.slice A1 c.bogons.length cap1) (.slice A2 ts.length cap2) (.slice A3 c.rules.length cap3) c)[3]? = some (.slice A3 c.rules.length cap3) := rfl
  generalize confC (.slice A0 c.ifaces.length cap0) (.slice A1 c.bogons.length cap1) (.slice A2 ts.length cap2) (.slice A3 c.rules.length cap3) c = cs at *
  have HP : Hid (PrT W cs (W.alloc (.cells cs 27))) := ⟨heap_alloc_new W _, bnew W _, by simp⟩
  have HD : Hid (_ ∧ _ ∧ _ ∧ _) := ⟨c0, c1, c2, c3⟩
  clear h c0 c1 c2 c3
  go_enter Tryz.func13, Tryz.ntmps13
  go_wp2_with fail
  go_loopw [3, 4] (fun s3 s4 wr => ∃ k : Nat, k ≤ c.ifaces.length ∧ s4 = .int .i64 k ∧ s3 = .int .i64 ((c.ifaces.take k).foldl stI 0) ∧ PrT W cs wr) (fun s3 s4 _ => c.ifaces.length - (intOf s4).toNat)
  case atStart => exact ⟨0, by omega, rfl, rfl, HP.out⟩
  case round =>
    obtain ⟨k, hkl, rfl, rfl, hp⟩ := hrel
    have HP := Lib.hid hp
    have q0 := hp.cell HD.out.1
    by_cases hlt : k < c.ifaces.length
    · have hlt' : (k : Int) < c.ifaces.length := by omega
      have hk63 : (k : Int) + 1 ≤ 9223372036854775807 := by omega
      obtain ⟨x, hx⟩ : ∃ x, c.ifaces[k]? = some x := ⟨_, List.getElem?_eq_getElem hlt⟩
      obtain ⟨b, o, c1, hv1, -, hbl, hr⟩ := HW.out.ifaces.at ifL_len k x hx
      injection hv1 with e1 e2 e3
      subst e1 e3
      have hr := range_below hr hp.low hbl
      have q1 : wr.cell? ⟨b, o + k * 5, none⟩ = some (.string ⟨x.name.toArray⟩) := hr 0 _ rfl
      have HM := Lib.hid (fold_snoc stI c.ifaces 0 k x hx)
      clear hr hx
      generalize (c.ifaces.take k).foldl stI 0 = N at *
      go_wp2_with fail
      go_roundw
      case rel => exact ⟨k + 1, by omega, by go_num, by rw [HM.out]; rfl, HP.out⟩
      case measure => simp only [intOf]; go_num
    · have hge : ¬ (k : Int) < c.ifaces.length := by omega
      obtain rfl : k = c.ifaces.length := by omega
      rw [List.take_length]
      generalize hN1 : c.ifaces.foldl stI 0 = N1 at *
      go_wp2_with fail
      go_loopw [3, 5] (fun s3 s5 wr => ∃ k : Nat, k ≤ ts.length ∧ s5 = .int .i64 k ∧ s3 = .int .i64 ((c.tables.take k).foldl stT N1) ∧ PrT W cs wr) (fun s3 s5 _ => ts.length - (intOf s5).toNat)
      case atStart => exact ⟨0, by omega, rfl, rfl, HP.out⟩
      case round =>
        obtain ⟨k, hkl, rfl, rfl, hp⟩ := hrel
        have HP := Lib.hid hp
        clear q0
        have q2 := hp.cell HD.out.2.2.1
        by_cases hlt : k < ts.length
        · have hlt' : (k : Int) < ts.length := by omega
          have hk63 : (k : Int) + 1 ≤ 9223372036854775807 := by omega
          obtain ⟨t, hx⟩ : ∃ t, ts[k]? = some t := ⟨_, List.getElem?_eq_getElem hlt⟩
          obtain ⟨b, o, c1, hv1, -, hbl, hr⟩ := HW.out.tables.at nmL_len k t hx
          injection hv1 with e1 e2 e3
          subst e1 e3
          have hxt : c.tables[k]? = some t.1 := by rw [← HW.out.tab, List.getElem?_map, hx]; rfl
          have HM := Lib.hid (fold_snoc stT c.tables N1 k t.1 hxt)
          obtain ⟨B, capb, eb, -, -⟩ := HW.out.tin t (List.mem_of_getElem? hx)
          obtain ⟨⟨nx, lx⟩, ux⟩ := t
          dsimp only at *
          subst eb
          have HE := Lib.hid ((PrH.mk hp (show wr.rangeAt b (o + k * 2) [Value.string ⟨nx.toArray⟩, .slice B lx.length capb] from range_below hr hp.low hbl) (Nat.lt_of_lt_of_le hbl hp.low.size)).below (Below.refl _ _).drew)
          clear hr hx hxt
          generalize (c.tables.take k).foldl stT N1 = N at *
          go_wp2_with fail
          refine region_in (PrH W cs b (o + k * 2) [Value.string ⟨nx.toArray⟩, .slice B lx.length capb]) (by kernel_rfl) (by kernel_rfl) (HE.out) ?_
          repeat (first
            | go_big_quiet_skip
            | (go_big_quiet_want; first
              | ((with_reducible refine load_one W.heap.size 2 ?_ (fun p => p.property.pr.cell HD.out.2.2.1) Tryz.isAgg24 ?_); rfl; simp only [Act.put, List.setIfInBounds_toArray, List.set_cons_zero, List.set_cons_succ]; go_big_quiet_on)
              | ((with_reducible refine load_one b (o + k * 2) ?_ (fun p => p.property.a0) Tryz.isAgg9 ?_); rfl; simp only [Act.put, List.setIfInBounds_toArray, List.set_cons_zero, List.set_cons_succ]; go_big_quiet_on)
              | ((with_reducible refine load_one b (o + k * 2 + 1) ?_ (fun p => p.property.a1) Tryz.isAgg23 ?_); rfl; simp only [Act.put, List.setIfInBounds_toArray, List.set_cons_zero, List.set_cons_succ]; go_big_quiet_on)
              | (go_big_quiet_op; first
                | go_big_quiet_on
                | ((refine ⟨_, fun _ _ => rfl, ?_⟩); go_big_quiet_on))))
          refine wpQuiet_nil ?_
          rintro _ ⟨⟨w2, h2⟩, rfl⟩
          have HP := Lib.hid h2.pr
          clear h2
          go_wp2_with fail
          go_roundw
          case rel => exact ⟨k + 1, by omega, by go_num, by rw [HM.out]; rfl, HP.out⟩
          case measure => simp only [intOf]; go_num
        · have hge : ¬ (k : Int) < ts.length := by omega
          obtain rfl : k = ts.length := by omega
          rw [show c.tables.take ts.length = c.tables from by rw [HW.out.tlen, List.take_length]]
          generalize hN2 : c.tables.foldl stT N1 = N2 at *
          go_wp2_with fail
          go_loopw [3, 6] (fun s3 s6 wr => ∃ k : Nat, k ≤ c.rules.length ∧ s6 = .int .i64 k ∧ s3 = .int .i64 ((c.rules.take k).foldl stR N2) ∧ PrT W cs wr) (fun s3 s6 _ => c.rules.length - (intOf s6).toNat)
          case atStart => exact ⟨0, by omega, rfl, rfl, HP.out⟩
          case round =>
            obtain ⟨k, hkl, rfl, rfl, hp⟩ := hrel
            have HP := Lib.hid hp
            clear q2
            have q3 := hp.cell HD.out.2.2.2
            by_cases hlt : k < c.rules.length
            · have hlt' : (k : Int) < c.rules.length := by omega
              have hk63 : (k : Int) + 1 ≤ 9223372036854775807 := by omega
              obtain ⟨x, hx⟩ : ∃ x, c.rules[k]? = some x := ⟨_, List.getElem?_eq_getElem hlt⟩
              obtain ⟨b, o, c1, hv1, -, hbl, hr⟩ := HW.out.rules.at rlL_len k x hx
              injection hv1 with e1 e2 e3
              subst e1 e3
              have HX := Lib.hid (range_below hr hp.low hbl)
              have HNl := Lib.hid (show (Tryz.prog.info? 75).map (·.size) = some (rlL x).length from info32 x)
              have HN := Lib.hid (show (Tryz.prog.info? 75).map (·.size) = some (rlL x).toArray.size from info32 x)
              have HOne := Lib.hid (show (rlL x).toArray.all (·.oneCell') = true by kernel_rfl)
              have HSz := Lib.hid (show (rlL x).toArray.size = 28 from rfl)
              have g1 : (rlL x).toArray[3]? = some (.string ⟨x.on.toArray⟩) := rfl
              have g2 : (rlL x).toArray[6]? = some (.string ⟨x.frm.table.toArray⟩) := rfl
              have g3 : (rlL x).toArray[12]? = some (.string ⟨x.dst.table.toArray⟩) := rfl
              have g4 : (rlL x).toArray[22]? = some (.string ⟨x.routeTo.iface.toArray⟩) := rfl
              have g5 : (rlL x).toArray[25]? = some (.string ⟨x.replyTo.iface.toArray⟩) := rfl
              have HG : Hid (_ ∧ _ ∧ _ ∧ _ ∧ _) := ⟨g1, g2, g3, g4, g5⟩
              have HM := Lib.hid (fold_snoc stR c.rules N2 k x hx)
              clear hr hx g1 g2 g3 g4 g5
              generalize rlL x = fx at *
              generalize (c.rules.take k).foldl stR N2 = N at *
              go_wp2_with (first
                | ((with_reducible refine load_range b (o + k * 28) ?_ HX.out Tryz.underlying75 HNl.out ?_ ?_); rfl; rfl)
                | ((with_reducible refine store_new fx.toArray ?_ ?_ ?_ HN.out HOne.out ?_ ?_); rfl; rfl; exact HSz.out; rfl; intro V hV hbV hlV; have HP := Lib.hid (hp.below hbV); have r1 := (cell_of_row _ _ _ _ _ _ hV).trans HG.out.1; have r2 := (cell_of_row _ _ _ _ _ _ hV).trans HG.out.2.1; have r3 := (cell_of_row _ _ _ _ _ _ hV).trans HG.out.2.2.1; have r4 := (cell_of_row _ _ _ _ _ _ hV).trans HG.out.2.2.2.1; have r5 := (cell_of_row _ _ _ _ _ _ hV).trans HG.out.2.2.2.2; clear hV hbV hlV hp q3))
              go_roundw
              case rel => exact ⟨k + 1, by omega, by go_num, by rw [HM.out]; rfl, HP.out⟩
              case measure => simp only [intOf]; go_num
            · have hge : ¬ (k : Int) < c.rules.length := by omega
              obtain rfl : k = c.rules.length := by omega
              rw [List.take_length]
              have hH : heavyN c = c.rules.foldl stR N2 := by unfold heavyN; rw [hN1, hN2]
              rw [← hH]
              have HF := Lib.hid (show heavyF c = if 2000 < heavyN c then true else decide (100 < c.bogons.length) from rfl)
              clear hH hN1 hN2
              generalize heavyN c = N at *
              have q1 := hp.cell HD.out.2.1
              by_cases p0 : 2000 < N
              · have HB := Lib.hid (show heavyF c = true by rw [HF.out, if_pos p0])
                go_wp2_with fail
                go_ret
                exact ⟨by rw [HB.out]; rfl, HP.out.low⟩
              · by_cases p1 : (100 : Int) < c.bogons.length
                · have HB := Lib.hid (show heavyF c = true by rw [HF.out, if_neg p0]; exact decide_eq_true (by omega))
                  go_wp2_with fail
                  go_ret
                  exact ⟨by rw [HB.out]; rfl, HP.out.low⟩
                · have HB := Lib.hid (show heavyF c = false by rw [HF.out, if_neg p0]; exact decide_eq_false (by omega))
                  go_wp2_with fail
                  go_ret
                  exact ⟨by rw [HB.out]; rfl, HP.out.low⟩
end Go.Proofs.YtnmbbnhgoedjgaaGreatDoor.Ck1

namespace Go.Proofs.YtnmbbnhgoedjgaaGreatDoor.Ck2
open Go Go.RowKit Go.Proofs.YtnmbbnhgoedjgaaGreatDoor.Ad0 Go.Proofs.YtnmbbnhgoedjgaaGreatDoor.Ru0 Go.Proofs.YtnmbbnhgoedjgaaGreatDoor.Ru3 Go.Proofs.YtnmbbnhgoedjgaaGreatDoor.Ru6 Go.Proofs.YtnmbbnhgoedjgaaGreatDoor.RuB Go.Proofs.YtnmbbnhgoedjgaaGreatDoor.Rw0 Go.Proofs.YtnmbbnhgoedjgaaGreatDoor.RuYa Go.Proofs.YtnmbbnhgoedjgaaGreatDoor.Cf0 Go.Proofs.YtnmbbnhgoedjgaaGreatDoor.Cf4 Go.Proofs.YtnmbbnhgoedjgaaGreatDoor.Cg0 Go.Proofs.YtnmbbnhgoedjgaaGreatDoor.CkO Go.Proofs.YtnmbbnhgoedjgaaGreatDoor.CgP Go.Proofs.YtnmbbnhgoedjgaaGreatDoor.Ch7 Go.Proofs.YtnmbbnhgoedjgaaGreatDoor.CgB Go.Proofs.YtnmbbnhgoedjgaaGreatDoor.Ck1
set_option linter.unusedVariables false
set_option linter.unusedSimpArgs false
theorem side_name (s : SideM) (b : Bool) (h : sideR s b = true) : s.table.length ≤ 8 := by
  unfold sideR at h
  split at h
  · simp at h
  split at h
  · simp only [Bool.and_eq_true, decide_eq_true_eq] at h
    rw [h.1]
    simp
  split at h
  · simp only [Bool.and_eq_true] at h
    exact name_len _ h.1
  · rename_i e
    have : s.table = [] := by simpa using e
    rw [this]
    simp
theorem pin_name (p : PinM) (h : pinR p = true) : p.iface.length ≤ 8 := by
  unfold pinR at h
  split at h
  · exact name_len _ h
  · rw [of_decide_eq_true h]
    simp
theorem on_name (r : RuleM) (h : ruleR r = true) : r.on.length ≤ 8 := by
  unfold ruleR at h
  simp only [if_not, Bool.and_eq_true, Bool.not_eq_true', Bool.or_eq_false_iff, decide_eq_false_iff_not, decide_eq_true_eq, Bool.not_eq_false', Bool.and_eq_false_iff] at h
  have h1 := h.2.1.1.1
  by_cases e : r.on = []
  · rw [e]; simp
  · rcases h1 with h1 | h1
    · exact absurd e h1
    · exact name_len _ h1
theorem light_few (c : ConfM) (hf : WideC c) (h : Ck1.heavyF c = false) (h0 : isC0 c = true) : c.tables.length ≤ 1048576 := by
  have F := isC0_facts c h0
  have hN : heavyN c ≤ 2000 := by
    unfold Ck1.heavyF at h
    split at h
    · simp at h
    · omega
  unfold heavyN at hN
  have hi := fold_le stI 18 c.ifaces 0 (by omega) (by have := F.i1; omega) (fun n x hx h0 h1 => by
    have hl := name_len _ (isI_facts x (List.all_eq_true.1 F.ifaces x hx)).1
    unfold stI
    rw [zN_eq, wrap_id (n + 10) (by omega) (by omega), wrap_id _ (by omega) (by omega)]
    omega)
  have i1 := F.i1
  have ht := fold_le stT 1042 c.tables (c.ifaces.foldl stI 0) (by omega) (by have := hf.nt; omega) (fun n x hx h0 h1 => by
    have hq := List.all_eq_true.1 F.tables x hx
    simp only [prefsOK, Bool.and_eq_true, decide_eq_true_eq] at hq
    have hl := name_len _ hq.1
    have hl2 := hq.2.1
    unfold stT
    rw [zN_eq, wrap_id (n + 10) (by omega) (by omega), wrap_id (4 * _) (by omega) (by omega), wrap_id (n + 10 + _) (by omega) (by omega), wrap_id _ (by omega) (by omega)]
    omega)
  have nt := hf.nt
  have nr := F.nr
  have hr := fold_le stR 60 c.rules (c.tables.foldl stT (c.ifaces.foldl stI 0)) (by omega) (by omega) (fun n x hx h0 h1 => by
    have hq := List.all_eq_true.1 F.rules x hx
    have f := facts x hq (hf.ok.rules x hx).set.2
    have l1 := on_name x hq
    have l2 := side_name _ _ f.sides.1
    have l3 := side_name _ _ f.sides.2
    have l4 := pin_name _ f.pins.1
    have l5 := pin_name _ f.pins.2
    unfold stR
    simp only [zN_eq]
    rw [wrap_id (n + 20) (by omega) (by omega), wrap_id (n + 20 + _) (by omega) (by omega), wrap_id (n + 20 + _ + _) (by omega) (by omega), wrap_id (n + 20 + _ + _ + _) (by omega) (by omega), wrap_id (n + 20 + _ + _ + _ + _) (by omega) (by omega), wrap_id _ (by omega) (by omega)]
    omega)
  omega
theorem light_fit (c : ConfM) (hf : WideC c) (h : Ck1.heavyF c = false) : FitC c :=
  ⟨hf.ok, hf.ni, hf.nb, hf.nt, hf.nr, hf.il, hf.tl, light_few c hf h⟩
end Go.Proofs.YtnmbbnhgoedjgaaGreatDoor.Ck2

