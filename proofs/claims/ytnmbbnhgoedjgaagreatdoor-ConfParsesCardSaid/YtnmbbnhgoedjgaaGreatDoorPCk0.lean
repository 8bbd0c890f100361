/- castellanref20.Parse. castellanlaw20: known; the law ConfParses, walked. -/
import Derived.Test.YtnmbbnhgoedjgaaGreatDoorPChp
import Derived.Test.YtnmbbnhgoedjgaaGreatDoorPChe
import Derived.Test.YtnmbbnhgoedjgaaGreatDoorPRuP
import Derived.Test.YtnmbbnhgoedjgaaGreatDoorPCgV
import Derived.Test.YtnmbbnhgoedjgaaGreatDoorPRuU
import Derived.Test.YtnmbbnhgoedjgaaGreatDoorPCgU
import Derived.Test.YtnmbbnhgoedjgaaGreatDoorPCg8
namespace Go.Proofs.YtnmbbnhgoedjgaaGreatDoor.Chq
open Go Go.RowKit Go.Proofs.YtnmbbnhgoedjgaaGreatDoor.Ad0 Go.Proofs.YtnmbbnhgoedjgaaGreatDoor.Ad1 Go.Proofs.YtnmbbnhgoedjgaaGreatDoor.St0 Go.Proofs.YtnmbbnhgoedjgaaGreatDoor.St2 Go.Proofs.YtnmbbnhgoedjgaaGreatDoor.St3 Go.Proofs.YtnmbbnhgoedjgaaGreatDoor.B1 Go.Proofs.YtnmbbnhgoedjgaaGreatDoor.St7 Go.Proofs.YtnmbbnhgoedjgaaGreatDoor.St8 Go.Proofs.YtnmbbnhgoedjgaaGreatDoor.Ru0 Go.Proofs.YtnmbbnhgoedjgaaGreatDoor.Ru4 Go.Proofs.YtnmbbnhgoedjgaaGreatDoor.Ru6 Go.Proofs.YtnmbbnhgoedjgaaGreatDoor.RuB Go.Proofs.YtnmbbnhgoedjgaaGreatDoor.RuC Go.Proofs.YtnmbbnhgoedjgaaGreatDoor.RuY Go.Proofs.YtnmbbnhgoedjgaaGreatDoor.Cf0 Go.Proofs.YtnmbbnhgoedjgaaGreatDoor.Cf4 Go.Proofs.YtnmbbnhgoedjgaaGreatDoor.Cg0 Go.Proofs.YtnmbbnhgoedjgaaGreatDoor.Ch4 Go.Proofs.YtnmbbnhgoedjgaaGreatDoor.Ch7 Go.Proofs.YtnmbbnhgoedjgaaGreatDoor.CgB Go.Proofs.YtnmbbnhgoedjgaaGreatDoor.CgL Go.Proofs.YtnmbbnhgoedjgaaGreatDoor.RuX Go.Proofs.YtnmbbnhgoedjgaaGreatDoor.Chg Go.Proofs.YtnmbbnhgoedjgaaGreatDoor.Cg2 Go.Proofs.YtnmbbnhgoedjgaaGreatDoor.Cg5 Go.Proofs.YtnmbbnhgoedjgaaGreatDoor.Cg9 Go.Proofs.YtnmbbnhgoedjgaaGreatDoor.CgC Go.Proofs.YtnmbbnhgoedjgaaGreatDoor.Chp Go.Proofs.YtnmbbnhgoedjgaaGreatDoor.Ch5 Go.Proofs.YtnmbbnhgoedjgaaGreatDoor.RuN Go.Proofs.YtnmbbnhgoedjgaaGreatDoor.RuP Go.Proofs.YtnmbbnhgoedjgaaGreatDoor.RuO Go.Proofs.YtnmbbnhgoedjgaaGreatDoor.Che Go.Proofs.YtnmbbnhgoedjgaaGreatDoor.Cg7 Go.Proofs.YtnmbbnhgoedjgaaGreatDoor.CgW Go.Proofs.YtnmbbnhgoedjgaaGreatDoor.CgV
set_option linter.unusedVariables false
set_option linter.unusedSimpArgs false
attribute [local go_sem ↓] ix_eq
theorem rwords_got (s : Wd) (hs : s.length ≤ 4294967295) (w : World) :
    Calls Tryz.prog 29 #[.string ⟨s.toArray⟩] w fun e w' => ∃ v, e = .returned v ∧ w'.ownsRow w.heap.size 9 1 v (wordsL s).length ((wordsL s).map fun x => Value.string ⟨x.toArray⟩) ∧ (∀ x ∈ wordsL s, x.length ≤ s.length) ∧ Below w.heap.size w w' := by
  have h3 : (⟨s.toArray⟩ : ByteArray).size = s.length := List.size_toArray
  refine (words_any ⟨s.toArray⟩ (by rw [h3]; exact hs) w).mono ?_
  rintro e w' ⟨v, xs, rfl, hx, hz, ho, hb⟩
  have e0 : (⟨s.toArray⟩ : ByteArray).data.toList = s := rfl
  rw [e0] at hx
  refine ⟨v, rfl, ?_, fun x hxm => ?_, hb⟩
  · rw [← hx, List.length_map, List.map_map]
    exact ho
  · rw [← hx] at hxm
    obtain ⟨y, hy, rfl⟩ := List.mem_map.1 hxm
    have := hz y hy
    rw [h3] at this
    exact this
theorem rsplit_got (s : Wd) (hs : s.length ≤ 8192) (w : World) :
    Calls Tryz.prog 28 #[.string ⟨s.toArray⟩, .int .u8 10] w fun e w' => ∃ v, e = .returned v ∧ w'.ownsRow w.heap.size 9 1 v (parts 10 s).length ((parts 10 s).map fun x => Value.string ⟨x.toArray⟩) ∧ Below w.heap.size w w' := by
  have h3 : (⟨s.toArray⟩ : ByteArray).size = s.length := List.size_toArray
  refine (split_any ⟨s.toArray⟩ 10 (by rw [h3]; omega) w).mono ?_
  rintro e w' ⟨v, xs, rfl, hx, hz, ho, hb⟩
  have e0 : (⟨s.toArray⟩ : ByteArray).data.toList = s := rfl
  rw [e0] at hx
  refine ⟨v, rfl, ?_, hb⟩
  rw [← hx, List.length_map, List.map_map]
  exact ho
theorem own_range {W : World} {base : Nat} {e : TypeId} {s : Nat} {g n cap : Nat} {xs : List Value} (h : W.ownsRow base e s (.slice (some ⟨g, 0, none⟩) n cap) n xs) : W.rangeAt g 0 xs := by
  obtain ⟨A, c, e1, -, hr⟩ := own_sl h
  cases e1
  rcases hr with ⟨h0, rfl⟩ | ⟨b, o, e2, hb, hr⟩
  · intro j v hj; simp at hj
  · cases e2
    exact hr
theorem kept_range {w w' : World} {B g b o : Nat} {cs : List Value} (h : w.rangeAt b o cs) (hk : Keep B g w w') (hb : b < B) (hg : b ≠ g) : w'.rangeAt b o cs := fun j v hj => (World.cell?_of_block (w := w) (a := ⟨b, o + j, none⟩) (hk.block b hb hg)).trans (h j v hj)
set_option maxRecDepth 100000 in
set_option maxHeartbeats 8000000 in
theorem rparse_any (KPR : RPrintSaid) (KR : ReadSaid) (s : Wd) (hs : s.length ≤ 8192) (W : World) (hl : LibOK W) :
    Calls Tryz.prog 10 #[.string ⟨s.toArray⟩] W fun e w' => ParseGot W (parseC s) e w' := by
  have HL := Lib.hid (fun W' (hb : Below W.heap.size W W') => hl.below hb)
  obtain ⟨ls, hls⟩ : ∃ ls, ls = parts 10 s := ⟨_, rfl⟩
  have HG := Lib.hid (show parseC s = goL startC 0 ls by unfold parseC; rw [if_neg (by omega), hls])
  have hnl : ls.length ≤ 8193 := by
    rw [hls, parts_len]
    have := List.count_le_length (a := (10 : UInt8)) (l := s)
    omega
  have hpos : 0 < ls.length := by rw [hls, parts_len]; omega
  have Hle := Lib.hid (fun x (hx : x ∈ ls) => Nat.le_trans (parts_le 10 s x (by rw [← hls]; exact hx)) hs)
  have hsz : ¬ ((8192 : Int) < s.length) := by omega
  have KS := fun W' => rsplit_got s hs W'
  rw [← hls] at KS
  have KS := Lib.hid KS
  have HB0 := Lib.hid (((Below.refl W.heap.size W).alloc (Nat.le_refl _) (.cells #[.slice none 0 0, .slice none 0 0, .slice none 0 0, .slice none 0 0, .int .i64 0, .int .i64 0] 27)).alloc (by simp) (.cells #[.slice none 0 0, .slice none 0 0, .slice none 0 0, .slice none 0 0, .int .i64 0, .int .i64 (-1)] 27))
  have HW : Hid (∀ W0, Below (((W.alloc (.cells #[.slice none 0 0, .slice none 0 0, .slice none 0 0, .slice none 0 0, .int .i64 0, .int .i64 0] 27)).alloc (.cells #[.slice none 0 0, .slice none 0 0, .slice none 0 0, .slice none 0 0, .int .i64 0, .int .i64 (-1)] 27))).heap.size ((W.alloc (.cells #[.slice none 0 0, .slice none 0 0, .slice none 0 0, .slice none 0 0, .int .i64 0, .int .i64 0] 27)).alloc (.cells #[.slice none 0 0, .slice none 0 0, .slice none 0 0, .slice none 0 0, .int .i64 0, .int .i64 (-1)] 27)) W0 → W.heap.size + 2 ≤ W0.heap.size ∧ W0.heap[W.heap.size]? = some (.cells #[.slice none 0 0, .slice none 0 0, .slice none 0 0, .slice none 0 0, .int .i64 0, .int .i64 0] 27 (0, 0)) ∧ W0.heap[W.heap.size + 1]? = some (.cells #[.slice none 0 0, .slice none 0 0, .slice none 0 0, .slice none 0 0, .int .i64 0, .int .i64 (-1)] 27 (0, 0)) ∧ Below W.heap.size W W0) := by
    intro W0 hb
    refine ⟨by have := hb.size; simp at this; omega, ?_, ?_, HB0.out.trans (hb.mono (by simp; omega))⟩
    · exact (row_step (row_step (Lib.hid (heap_alloc_new W _)) (bnew _ _)) hb).out
    · have h := heap_alloc_new (W.alloc (.cells #[.slice none 0 0, .slice none 0 0, .slice none 0 0, .slice none 0 0, .int .i64 0, .int .i64 0] 27)) (.cells #[.slice none 0 0, .slice none 0 0, .slice none 0 0, .slice none 0 0, .int .i64 0, .int .i64 (-1)] 27)
      have h2 := (row_step (Lib.hid h) hb).out
      simpa using h2
  clear hls hl
  go_enter Tryz.func10, Tryz.ntmps10
  go_wp2_with (go_at_call 28; (with_reducible refine (KS.out _).mono ?_); rintro e W0 ⟨lv, rfl, ho, hb0⟩; have HF := Lib.hid (HW.out _ hb0); have hsb := (ho.lt); obtain ⟨sb, scap, e3, hs1, hs2⟩ := ho.form hpos; subst e3; have HLv := Lib.hid (own_range ho); have hs1' : W.heap.size + 2 ≤ sb := (by simpa using hs1); clear ho hb0 hsb hs1)
  go_loopw [7] (fun s7 wr => ∃ (k : Nat) (c : ConfM) (v0 v1 v2 v3 : Value) (ts : List (NamedM × Value)), k ≤ ls.length ∧ s7 = .int .i64 k ∧ runL startC (ls.take k) = some c ∧ InvC k c ∧ RcfAt (W.heap.size + 1) W0.heap.size v0 v1 v2 v3 ts c wr ∧ Keep W0.heap.size (W.heap.size + 1) W0 wr) (fun s7 _ => ls.length - (intOf s7).toNat)
  case atStart => exact ⟨0, startC, _, _, _, _, [], by omega, rfl, rfl, inv_start, ⟨HF.out.2.2.1, Rd.start _ _ _ ⟨rfl, rfl, rfl, rfl⟩, by have := HF.out.1; omega, Nat.le_refl _⟩, Keep.refl _ _ _⟩
  case round =>
    obtain ⟨k, c, v0, v1, v2, v3, ts, hkl, rfl, hrun, hinv, hrd, hk⟩ := hrel
    have HRun := Lib.hid hrun
    have HInv := Lib.hid hinv
    have HRd := Lib.hid hrd
    have HKp := Lib.hid hk
    have HBW := Lib.hid (show Below W.heap.size W wr from HF.out.2.2.2.trans ((hk.low (by have := HF.out.1; omega)).mono (by omega)))
    have HLr := Lib.hid (kept_range HLv.out hk hs2 (by omega))
    have HZr := Lib.hid ((hk.block W.heap.size (by have := HF.out.1; omega) (by omega)).trans HF.out.2.1)
    have sbl : sb < wr.heap.size := Nat.lt_of_lt_of_le hs2 hk.size
    clear hrun hinv hrd hk
    by_cases hlt : k < ls.length
    · have hlt' : (k : Int) < ls.length := by omega
      have hk63 : (k : Int) + 1 ≤ 9223372036854775807 := by omega
      obtain ⟨l, hx⟩ : ∃ l, ls[k]? = some l := ⟨_, List.getElem?_eq_getElem hlt⟩
      have hll := Hle.out l (List.mem_of_getElem? hx)
      have c0 : wr.cell? ⟨sb, k, none⟩ = some (.string ⟨l.toArray⟩) := by
        have h := HLr.out k (.string ⟨l.toArray⟩) (by simp [hx])
        rwa [Nat.zero_add] at h
      have HTk := Lib.hid (show runL startC (ls.take (k + 1)) = stepL c l by rw [List.take_add_one, hx, Option.toList_some, runL_snoc _ _ _ _ HRun.out])
      have HSt := Lib.hid (fun hs => go_stop ls k l c HRun.out hx hs)
      have KF := Lib.hid (fun W' => rwords_got l (by omega) W')
      clear hx
      cases hw : wordsL l with
      | nil =>
        rw [hw] at KF
        have HS := Lib.hid (show stepL c l = some c by unfold stepL; rw [hw]; rfl)
        clear hw
        go_wp2_with (go_at_call 29; (with_reducible refine (KF.out _).mono ?_); rintro e w1 ⟨v, rfl, ho, hsz, hb1⟩; have HRd := Lib.hid (HRd.out.below hb1); have HKp := Lib.hid (HKp.out.below hb1 (HKp.out.size)); obtain ⟨A', cp, e3, -⟩ := own_sl ho; subst e3; clear hb1 hsz ho)
        go_roundw
        case rel => exact ⟨k + 1, c, _, _, _, _, _, by omega, by go_num, HTk.out.trans HS.out, inv_mono HInv.out (by omega), HRd.out, HKp.out⟩
        case measure => simp only [intOf]; go_num
      | cons h t =>
        obtain ⟨a, h', rfl⟩ := word_ne l h t hw
        have HW := Lib.hid hw
        have hwc := words_count l
        rw [hw] at KF hwc
        have hta : t.length ≤ 8193 := by simp at hwc; omega
        have hlen : ((a :: h') :: t).length = t.length + 1 := rfl
        obtain ⟨N, hN⟩ : ∃ N, N = t.length + 1 := ⟨_, rfl⟩
        rw [hlen, ← hN] at KF
        have HN := Lib.hid hN
        have hN0 : (0 : Int) < (N : Int) := by omega
        have hN1 : 0 < N := by omega
        clear hw hwc hlen hN
        obtain ⟨bh, hbh⟩ : ∃ bh : ByteArray, bh = ⟨(a :: h').toArray⟩ := ⟨_, rfl⟩
        have hix : ∀ w, (ix (.string bh) (.int .i64 0)).run Tryz.prog w = .ok (.int .u8 (a.toNat : Nat)) w := fun w => by subst hbh; exact str_index a h' w
        obtain ⟨n, hn⟩ : ∃ n : Int, n = (a.toNat : Nat) := ⟨_, rfl⟩
        rw [← hn] at hix
        have Hn := Lib.hid hn
        clear hn
        have HBh := Lib.hid hbh
        clear hbh
        by_cases ha : a = 35
        · have HS := Lib.hid (show stepL c l = some c by unfold stepL; rw [HW.out, skip_head, ha]; rfl)
          have hb5 : n = 35 := by rw [Hn.out, ha]; rfl
          rw [hb5] at hix
          clear ha hb5
          go_wp2_with (go_at_call 29; (with_reducible refine (KF.out _).mono ?_); rintro e w1 ⟨v, rfl, ho, hsz, hb1⟩; have HRd := Lib.hid (HRd.out.below hb1); have HKp := Lib.hid (HKp.out.below hb1 (HKp.out.size)); have HBW := Lib.hid (bstep HBW.out hb1 HBW.out.size); have HZr := row_step HZr hb1; have c1 := (hb1.cell (by exact sbl)).trans c0; obtain ⟨A, cp, e3, hA, hA2⟩ := ho.form (by omega); subst e3; have HO := Lib.hid ho; have hr := own_range ho; have d0 : w1.cell? ⟨A, 0, none⟩ = some (.string bh) := (hr 0 _ rfl).trans (by rw [HBh.out]); have hcp : N ≤ cp := own_cap ho; clear hb1 hr hsz hA hA2 ho)
          go_roundw
          case rel => exact ⟨k + 1, c, _, _, _, _, _, by omega, by go_num, HTk.out.trans HS.out, inv_mono HInv.out (by omega), HRd.out, HKp.out⟩
          case measure => simp only [intOf]; go_num
        · have HSl := Lib.hid (show stepL c l = lineL c l ((a :: h') :: t) by
            unfold stepL
            rw [HW.out, skip_head, show (a == 35) = false by simpa using ha]
            rfl)
          have hb5 : (n != 35) = true := by
            rw [Hn.out, bne_iff_ne]
            intro e
            have e : a.toNat = 35 := by omega
            exact ha (UInt8.toNat_inj.1 (by rw [e]; rfl))
          clear ha
          have KL := Lib.hid (fun W' (A cp : Nat) (hcp : N ≤ cp) (hA : A < W'.heap.size) (hr : W'.rangeAt A 0 (((a :: h') :: t).map fun x => Value.string ⟨x.toArray⟩)) (hz : ∀ x ∈ (a :: h') :: t, x.length ≤ l.length) (hL : LibOK W') (hR : RcfAt (W.heap.size + 1) W0.heap.size v0 v1 v2 v3 ts c W') => rline_any KR (W.heap.size + 1) W0.heap.size v0 v1 v2 v3 ts c (by have := HInv.out.ni; omega) (by have := HInv.out.nb; omega) (by have h1 := HInv.out.nt; have h2 := hR.rd.conf.tlen; omega) (by have := HInv.out.nr; omega) l (by omega) (a :: h') t A 0 cp W' hA (by have := HN.out; omega) (by omega) (fun x hx => by have := hz x (List.mem_cons_of_mem _ hx); omega) hr hL hR)
          unfold RLineGot at KL
          rw [← HN.out] at KL
          cases hst : lineL c l ((a :: h') :: t) with
          | none =>
            rw [hst] at KL
            have HZ := Lib.hid (HG.out.trans (HSt.out (HSl.out.trans hst)))
            clear hst
            go_wp2_with (first
              | (go_at_call 29; (with_reducible refine (KF.out _).mono ?_); rintro e w1 ⟨v, rfl, ho, hsz, hb1⟩; have HRd := Lib.hid (HRd.out.below hb1); have HKp := Lib.hid (HKp.out.below hb1 (HKp.out.size)); have HBW := Lib.hid (bstep HBW.out hb1 HBW.out.size); have HZr := row_step HZr hb1; have c1 := (hb1.cell (by exact sbl)).trans c0; obtain ⟨A, cp, e3, hA, hA2⟩ := ho.form (by omega); subst e3; have HO := Lib.hid ho; have hr := own_range ho; have d0 : w1.cell? ⟨A, 0, none⟩ = some (.string bh) := (hr 0 _ rfl).trans (by rw [HBh.out]); have hcp : N ≤ cp := own_cap ho; have K2 := Lib.hid (KL.out w1 A cp hcp hA2 hr hsz (HL.out _ HBW.out) HRd.out); clear hb1 hr hsz hA hA2 ho)
              | (go_at_call 30; (with_reducible refine K2.out.mono ?_); rintro e w2 ⟨rfl, hk2⟩; have HKp2 := Lib.hid hk2; have HZr := Lib.hid ((hk2.block W.heap.size (by have := HF.out.1; omega) (by omega)).trans HZr.out); clear hk2)
              | ((with_reducible refine Mem.store_part W.heap.size 0 (#[Value.slice none 0 0, .slice none 0 0, .slice none 0 0, .slice none 0 0, .int .i64 0, .int .i64 0]) ?_ ?_ HZr.out ?_ ?_ ?_ ?_ ?_); rfl; rfl; exact Nat.le_of_ble_eq_true rfl; kernel_rfl; kernel_rfl; rfl))
            exact box_ret3 (Mem.puts_row _ 0 HZr.out) rfl rfl rfl rfl Tryz.underlying27 (by kernel_rfl) rfl (got_zero HZ.out rfl (Mem.puts_below (HBW.out.trans ((HKp2.out.low (by have := HF.out.1; omega)).mono (by omega))) (Nat.le_refl _) _ 0))
          | some c' =>
            rw [hst] at KL
            have HZ := Lib.hid (HSl.out.trans hst)
            clear hst
            go_wp2_with (first
              | (go_at_call 29; (with_reducible refine (KF.out _).mono ?_); rintro e w1 ⟨v, rfl, ho, hsz, hb1⟩; have HRd := Lib.hid (HRd.out.below hb1); have HKp := Lib.hid (HKp.out.below hb1 (HKp.out.size)); have HBW := Lib.hid (bstep HBW.out hb1 HBW.out.size); have HZr := row_step HZr hb1; have c1 := (hb1.cell (by exact sbl)).trans c0; obtain ⟨A, cp, e3, hA, hA2⟩ := ho.form (by omega); subst e3; have HO := Lib.hid ho; have hr := own_range ho; have d0 : w1.cell? ⟨A, 0, none⟩ = some (.string bh) := (hr 0 _ rfl).trans (by rw [HBh.out]); have hcp : N ≤ cp := own_cap ho; have K2 := Lib.hid (KL.out w1 A cp hcp hA2 hr hsz (HL.out _ HBW.out) HRd.out); clear hb1 hr hsz hA hA2 ho)
              | (go_at_call 30; (with_reducible refine K2.out.mono ?_); rintro e w2 ⟨rfl, ⟨z0, z1, z2, z3, us, hr2⟩, hk2⟩; have HRd := Lib.hid hr2; have HKp := Lib.hid (HKp.out.trans hk2); clear hk2 hr2))
            go_roundw
            case rel => exact ⟨k + 1, c', _, _, _, _, _, by omega, by go_num, HTk.out.trans HZ.out, inv_step hll HZ.out HInv.out, HRd.out, HKp.out⟩
            case measure => simp only [intOf]; go_num
    · obtain rfl : k = ls.length := by omega
      have HRun := Lib.hid (show runL startC ls = some c by have h := HRun.out; rwa [List.take_length] at h)
      have HEnd := Lib.hid (HG.out.trans (go_end ls c HRun.out))
      have HInv := Lib.hid (inv_mono HInv.out hkl)
      have HCf := Lib.hid (inv_fit HInv.out (by omega))
      have KC := fun W' (hb : Below wr.heap.size wr W') => rcheck_conf KPR c v0 v1 v2 v3 ts W' (HRd.out.below hb).rd.conf HCf.out (HL.out _ (HBW.out.trans (hb.mono HBW.out.size)))
      have HI6 := Lib.hid (Cg2.info6 v0 v1 v2 v3 c)
      have hge : ¬ (ls.length : Int) < ls.length := by omega
      have HOne := Lib.hid (conf_one HRd.out.rd.conf c)
      have KC := Lib.hid KC
      have HV := Lib.hid (show checkV c = .tuple #[.int .i64 (checkC c).1, .string ⟨(checkC c).2.toArray⟩] from rfl)
      obtain ⟨E, hE⟩ : ∃ E : Int, E = (checkC c).1 := ⟨_, rfl⟩
      obtain ⟨nm, hnm⟩ : ∃ nm : Wd, nm = (checkC c).2 := ⟨_, rfl⟩
      have KC := Lib.hid (show ∀ W', Below wr.heap.size wr W' → Calls Tryz.prog 14 #[.agg (confC v0 v1 v2 v3 c)] W' (fun e w' => e = .returned (.tuple #[.int .i64 E, .string ⟨nm.toArray⟩]) ∧ Below W'.heap.size W' w') from by
        have h := KC.out
        rw [HV.out, ← hE, ← hnm] at h
        exact h)
      have HE := Lib.hid hE
      clear hE hnm hlt
      by_cases hE : E = 0
      · have HZ := Lib.hid (show parseC s = (c, 0, 0) by rw [HEnd.out]; unfold endC; rw [← HE.out, hE]; rfl)
        subst hE
        go_wp2_with (first
          | ((with_reducible refine Mem.load_row (W.heap.size + 1) ?_ HRd.out.row Tryz.underlying27 HI6.out ?_ ?_); rfl; rfl)
          | (go_at_call 14; (with_reducible refine (KC.out _ (Below.refl _ _)).mono ?_); rintro e w1 ⟨rfl, hb1⟩; have HRd := Lib.hid (HRd.out.below hb1); have HZr := row_step HZr hb1; have HBW := Lib.hid (bstep HBW.out hb1 HBW.out.size); clear hb1)
          | ((with_reducible refine Mem.store_part W.heap.size 0 (confC v0 v1 v2 v3 c) ?_ ?_ HZr.out ?_ ?_ ?_ ?_ ?_); rfl; rfl; exact Nat.le_of_ble_eq_true rfl; kernel_rfl; exact HOne.out; rfl))
        refine box_ret3 (c := confC v0 v1 v2 v3 c) (by have h := Mem.puts_row (confC v0 v1 v2 v3 c).toList 0 HZr.out; have e := Mem.putL_whole #[Value.slice none 0 0, .slice none 0 0, .slice none 0 0, .slice none 0 0, .int .i64 0, .int .i64 0] (confC v0 v1 v2 v3 c) rfl; rw [e] at h; exact h) rfl rfl rfl rfl Tryz.underlying27 (by kernel_rfl) rfl ?_
        rw [HZ.out]
        exact ⟨v0, v1, v2, v3, ts, rfl, (HRd.out.rd.kept (grown_sets _ _ _ _) (fun k e => by cases e; have := HF.out.1; omega)).conf, Mem.puts_below HBW.out (Nat.le_refl _) _ 0⟩
      · have HZ := Lib.hid (show parseC s = ({}, 0, E) by rw [HEnd.out]; unfold endC; rw [← HE.out, if_pos hE])
        have hE' : (E != 0) = true := by simpa using hE
        clear hE
        go_wp2_with (first
          | ((with_reducible refine Mem.load_row (W.heap.size + 1) ?_ HRd.out.row Tryz.underlying27 HI6.out ?_ ?_); rfl; rfl)
          | (go_at_call 14; (with_reducible refine (KC.out _ (Below.refl _ _)).mono ?_); rintro e w1 ⟨rfl, hb1⟩; have HRd := Lib.hid (HRd.out.below hb1); have HZr := row_step HZr hb1; have HBW := Lib.hid (bstep HBW.out hb1 HBW.out.size); clear hb1)
          | ((with_reducible refine Mem.store_part W.heap.size 0 (#[Value.slice none 0 0, .slice none 0 0, .slice none 0 0, .slice none 0 0, .int .i64 0, .int .i64 0]) ?_ ?_ HZr.out ?_ ?_ ?_ ?_ ?_); rfl; rfl; exact Nat.le_of_ble_eq_true rfl; kernel_rfl; kernel_rfl; rfl))
        exact box_ret3 (Mem.puts_row _ 0 HZr.out) rfl rfl rfl rfl Tryz.underlying27 (by kernel_rfl) rfl (got_zero HZ.out rfl (Mem.puts_below HBW.out (Nat.le_refl _) _ 0))
end Go.Proofs.YtnmbbnhgoedjgaaGreatDoor.Chq

namespace Go.Proofs.YtnmbbnhgoedjgaaGreatDoor.Ck0
open Go Go.RowKit Go.Proofs.YtnmbbnhgoedjgaaGreatDoor.Ad1 Go.Proofs.YtnmbbnhgoedjgaaGreatDoor.St0 Go.Proofs.YtnmbbnhgoedjgaaGreatDoor.St2 Go.Proofs.YtnmbbnhgoedjgaaGreatDoor.St3 Go.Proofs.YtnmbbnhgoedjgaaGreatDoor.St8 Go.Proofs.YtnmbbnhgoedjgaaGreatDoor.Ru0 Go.Proofs.YtnmbbnhgoedjgaaGreatDoor.Ru6 Go.Proofs.YtnmbbnhgoedjgaaGreatDoor.RuB Go.Proofs.YtnmbbnhgoedjgaaGreatDoor.RuC Go.Proofs.YtnmbbnhgoedjgaaGreatDoor.RuY Go.Proofs.YtnmbbnhgoedjgaaGreatDoor.RuZ Go.Proofs.YtnmbbnhgoedjgaaGreatDoor.Cf0 Go.Proofs.YtnmbbnhgoedjgaaGreatDoor.Cf4 Go.Proofs.YtnmbbnhgoedjgaaGreatDoor.Cg0 Go.Proofs.YtnmbbnhgoedjgaaGreatDoor.Ch4 Go.Proofs.YtnmbbnhgoedjgaaGreatDoor.Ch7 Go.Proofs.YtnmbbnhgoedjgaaGreatDoor.CgM Go.Proofs.YtnmbbnhgoedjgaaGreatDoor.CgB Go.Proofs.YtnmbbnhgoedjgaaGreatDoor.CgL Go.Proofs.YtnmbbnhgoedjgaaGreatDoor.RuX Go.Proofs.YtnmbbnhgoedjgaaGreatDoor.Chg Go.Proofs.YtnmbbnhgoedjgaaGreatDoor.Cg2 Go.Proofs.YtnmbbnhgoedjgaaGreatDoor.Cg5 Go.Proofs.YtnmbbnhgoedjgaaGreatDoor.Cg9 Go.Proofs.YtnmbbnhgoedjgaaGreatDoor.Chp Go.Proofs.YtnmbbnhgoedjgaaGreatDoor.Ch5 Go.Proofs.YtnmbbnhgoedjgaaGreatDoor.RuN Go.Proofs.YtnmbbnhgoedjgaaGreatDoor.RuO Go.Proofs.YtnmbbnhgoedjgaaGreatDoor.Cg7 Go.Proofs.YtnmbbnhgoedjgaaGreatDoor.CgW Go.Proofs.YtnmbbnhgoedjgaaGreatDoor.CgV Go.Proofs.YtnmbbnhgoedjgaaGreatDoor.Chq Go.Proofs.YtnmbbnhgoedjgaaGreatDoor.CgT Go.Proofs.YtnmbbnhgoedjgaaGreatDoor.CgU
set_option linter.unusedVariables false
set_option linter.unusedSimpArgs false
def kS : Wd := [102, 108, 111, 119, 115, 32, 52, 10, 101, 114, 114, 111, 114, 115, 32, 49, 10, 105, 102, 97, 99, 101, 32, 97, 32, 49, 48, 46, 48, 46, 48, 46, 49, 47, 56, 32, 109, 116, 117, 32, 49, 53, 48, 48, 32, 114, 112, 102, 32, 110, 111, 110, 101, 10]
def kC : ConfM := { ifaces := [⟨[97], ⟨167772161, 8⟩, 1500, 0⟩], flows := 4, errors := 1 }
theorem kS_parse : parseC kS = (kC, 0, 0) := by decide +kernel
theorem kC_text : (if isC kC then textC kC else []) = kS := by decide +kernel
theorem kC_fit : FitC kC := by
  refine ⟨⟨fun x hx => ?_, by simp [kC], by simp [kC], by simp [kC]⟩, by simp [kC], by simp [kC], by simp [kC], by simp [kC], fun x hx => ?_, by simp [kC], by simp [kC]⟩
  · simp only [kC, List.mem_singleton] at hx
    subst hx
    show (167772161 : Nat) < 4294967296
    decide
  · simp only [kC, List.mem_singleton] at hx
    subst hx
    decide
/-- What both parsers' configurations fit. -/
theorem parse_fit (s : Wd) (hs : s.length ≤ 8192) : FitC (parseC s).1 := by
  have hz : FitC ({} : ConfM) := ⟨⟨by simp, by simp, by simp, by simp⟩, by simp, by simp, by simp, by simp, by simp, by simp, by simp⟩
  have hle : ∀ x ∈ parts 10 s, x.length ≤ 8192 := fun x hx => Nat.le_trans (parts_le 10 s x hx) hs
  have hn : (parts 10 s).length ≤ 8193 := by
    rw [parts_len]
    have := List.count_le_length (a := (10 : UInt8)) (l := s)
    omega
  unfold parseC
  rw [if_neg (by omega)]
  cases hr : runL startC (parts 10 s) with
  | some c =>
    rw [go_end _ c hr]
    have hi := inv_run _ _ _ 0 hle hr inv_start
    unfold endC
    split
    · exact hz
    · exact inv_fit hi (by omega)
  | none =>
    have : ∀ (l : List Wd) (c : ConfM) (i : Nat), runL c l = none → (goL c i l).1 = {} := by
      intro l
      induction l with
      | nil => intro c i h; cases h
      | cons x t ih =>
        intro c i h
        unfold runL at h
        unfold goL
        cases hx : stepL c x with
        | none => rfl
        | some d =>
          rw [hx] at h
          exact ih d (i + 1) h
    rw [this _ _ 0 hr]
    exact hz
/-- A configuration in a box. -/
structure CBox (W : World) (g : Nat) (v0 v1 v2 v3 : Value) (ts : List (NamedM × Value)) (c : ConfM) : Prop where
  row : W.heap[g]? = some (.cells (confC v0 v1 v2 v3 c) 27 (0, 0))
  conf : ConfIn W v0 v1 v2 v3 ts c
theorem CBox.below {W W' : World} {g : Nat} {v0 v1 v2 v3 : Value} {ts : List (NamedM × Value)} {c : ConfM} (h : CBox W g v0 v1 v2 v3 ts c) (hb : Below W.heap.size W W') : CBox W' g v0 v1 v2 v3 ts c :=
  ⟨(hb.block _ (blk_lt' h.row)).trans h.row, h.conf.below hb⟩
set_option maxRecDepth 100000 in
set_option maxHeartbeats 4000000 in
theorem known_any (HI : IsIfaceSaid) (HPr : PrintedSaid) (W : World) (hl : LibOK W) : Calls Tryz.prog 12 #[] W fun e w' => e = .returned (.bool true) ∧ Below W.heap.size W w' := by
  have KP := parse_any HI HPr kS (by decide) W hl
  unfold ParseGot at KP
  rw [kS_parse] at KP
  have KP := Lib.hid (show Calls Tryz.prog 9 #[.string ⟨#[102, 108, 111, 119, 115, 32, 52, 10, 101, 114, 114, 111, 114, 115, 32, 49, 10, 105, 102, 97, 99, 101, 32, 97, 32, 49, 48, 46, 48, 46, 48, 46, 49, 47, 56, 32, 109, 116, 117, 32, 49, 53, 48, 48, 32, 114, 112, 102, 32, 110, 111, 110, 101, 10]⟩] W _ from KP)
  have HL := Lib.hid (fun W' (hb : Below W.heap.size W W') => hl.below hb)
  have KC := Lib.hid (fun W' (hb : Below W.heap.size W W') v0 v1 v2 v3 ts (h : ConfIn W' v0 v1 v2 v3 ts kC) => by
    have h1 := print_conf HI HPr kC v0 v1 v2 v3 ts W' h kC_fit (hl.below hb)
    rw [kC_text] at h1
    exact h1)
  have KC := Lib.hid (show ∀ W' (hb : Below W.heap.size W W') v0 v1 v2 v3 ts (h : ConfIn W' v0 v1 v2 v3 ts kC), Calls Tryz.prog 15 #[.agg (confC v0 v1 v2 v3 kC)] W' (fun e w' => e = .returned (.string ⟨#[102, 108, 111, 119, 115, 32, 52, 10, 101, 114, 114, 111, 114, 115, 32, 49, 10, 105, 102, 97, 99, 101, 32, 97, 32, 49, 48, 46, 48, 46, 48, 46, 49, 47, 56, 32, 109, 116, 117, 32, 49, 53, 48, 48, 32, 114, 112, 102, 32, 110, 111, 110, 101, 10]⟩) ∧ Below W'.heap.size W' w') from KC.out)
  clear hl
  go_enter Tryz.func12, Tryz.ntmps12
  go_wp2_with (first
    | (go_at_call 9; (with_reducible refine KP.out.mono ?_); rintro e w1 ⟨v0, v1, v2, v3, ts, rfl, hc, hb1⟩; have HC := Lib.hid hc; have HB := Lib.hid hb1; have HOne := Lib.hid (conf_one hc kC); have HI6 := Lib.hid (Cg2.info6 v0 v1 v2 v3 kC); clear hc hb1)
    | ((with_reducible refine store_new (confC v0 v1 v2 v3 kC) ?_ ?_ ?_ HI6.out HOne.out ?_ ?_); rfl; rfl; rfl; rfl; intro V hV hbV hlV; have HC := Lib.hid (HC.out.below hbV); have HB := Lib.hid (bstep HB.out hbV HB.out.size); have HR := Lib.hid hV; clear hV hbV hlV)
    | ((with_reducible refine Mem.load_row w1.heap.size ?_ HR.out Tryz.underlying27 HI6.out ?_ ?_); rfl; rfl)
    | (go_at_call 15; (with_reducible refine (KC.out _ HB.out _ _ _ _ _ HC.out).mono ?_); rintro e w2 ⟨rfl, hb2⟩; have HB := Lib.hid (bstep HB.out hb2 HB.out.size); clear hb2))
  go_ret
  exact ⟨rfl, HB.out⟩
set_option maxRecDepth 100000 in
set_option maxHeartbeats 4000000 in
theorem parses_walk (HI : IsIfaceSaid) (HPr : PrintedSaid) (KPR : RPrintSaid) (KR : ReadSaid) (b : ByteArray) (W : World) (hl : LibOK W) :
    Calls Tryz.prog 3 #[.string b] W fun e w' => e = .returned (.bool true) ∧ Below W.heap.size W w' := by
  by_cases hs : (700 : Int) < b.size
  · clear hl
    go_enter Tryz.func3, Tryz.ntmps3
    go_wp2_with fail
    go_ret
    exact ⟨rfl, Below.refl _ _⟩
  obtain ⟨s, rfl⟩ : ∃ s : Wd, b = ⟨s.toArray⟩ := ⟨b.data.toList, by cases b; simp⟩
  have hz : (⟨s.toArray⟩ : ByteArray).size = s.length := List.size_toArray
  have hs8 : s.length ≤ 8192 := by rw [hz] at hs; omega
  have K1 := Lib.hid (fun W' (hb : Below W.heap.size W W') => parse_any HI HPr s hs8 W' (hl.below hb))
  have K2 := Lib.hid (fun W' (hb : Below W.heap.size W W') => rparse_any KPR KR s hs8 W' (hl.below hb))
  have hf := parse_fit s hs8
  unfold ParseGot at K1 K2
  generalize (⟨s.toArray⟩ : ByteArray) = b at *
  obtain ⟨C, at', E, hp⟩ : ∃ C at' E, parseC s = (C, at', E) := ⟨_, _, _, rfl⟩
  rw [hp] at K1 K2 hf
  dsimp only at K1 K2 hf
  have K3 := Lib.hid (fun W' v0 v1 v2 v3 u0 u1 u2 u3 ts us (h : ConfIn W' v0 v1 v2 v3 ts C) (h' : ConfIn W' u0 u1 u2 u3 us C) => by
    have h1 := rsame_conf C C v0 v1 v2 v3 u0 u1 u2 u3 ts us W' h h' hf hf
    rw [show decide (C = C) = true by simp] at h1
    exact h1)
  have K4 := Lib.hid (fun W' (hb : Below W.heap.size W W') => known_any HI HPr W' (hl.below hb))
  clear hl hf hp hz hs8
  have HB := Lib.hid (Below.refl W.heap.size W)
  go_enter Tryz.func3, Tryz.ntmps3
  go_wp2_with (first
    | (go_at_call 9; (with_reducible refine (K1.out _ HB.out).mono ?_); rintro e w1 ⟨v0, v1, v2, v3, ts, rfl, hc, hb1⟩; have HC := Lib.hid hc; have HB := Lib.hid (bstep HB.out hb1 HB.out.size); have HOne := Lib.hid (conf_one hc C); have HI6 := Lib.hid (Cg2.info6 v0 v1 v2 v3 C); clear hc hb1)
    | ((with_reducible refine store_new (confC v0 v1 v2 v3 C) ?_ ?_ ?_ HI6.out HOne.out ?_ ?_); rfl; rfl; rfl; rfl; intro V hV hbV hlV; have HC := Lib.hid (HC.out.below hbV); have HB := Lib.hid (bstep HB.out hbV HB.out.size); have HR := Lib.hid hV; clear hV hbV hlV)
    | (go_at_call 10; (with_reducible refine (K2.out _ HB.out).mono ?_); rintro e w2 ⟨u0, u1, u2, u3, us, rfl, hc, hb1⟩; have HC := Lib.hid (HC.out.below hb1); have HR := row_step HR hb1; have HD := Lib.hid hc; have HB := Lib.hid (bstep HB.out hb1 HB.out.size); have HOne2 := Lib.hid (conf_one hc C); have HI62 := Lib.hid (Cg2.info6 u0 u1 u2 u3 C); clear hc hb1)
    | ((with_reducible refine store_new (confC u0 u1 u2 u3 C) ?_ ?_ ?_ HI62.out HOne2.out ?_ ?_); rfl; rfl; rfl; rfl; intro V2 hV hbV hlV; have HC := Lib.hid (HC.out.below hbV); have HR := row_step HR hbV; have HD := Lib.hid (HD.out.below hbV); have HB := Lib.hid (bstep HB.out hbV HB.out.size); have HS := Lib.hid hV; clear hV hbV hlV)
    | ((with_reducible refine Mem.load_row w1.heap.size ?_ HR.out Tryz.underlying27 HI6.out ?_ ?_); rfl; rfl)
    | ((with_reducible refine Mem.load_row w2.heap.size ?_ HS.out Tryz.underlying27 HI62.out ?_ ?_); rfl; rfl)
    | (go_at_call 11; (with_reducible refine (K3.out _ _ _ _ _ _ _ _ _ _ _ HC.out HD.out).mono ?_); rintro e w3 ⟨rfl, hb2⟩; have HB := Lib.hid (bstep HB.out hb2 HB.out.size); clear hb2)
    | (go_at_call 12; (with_reducible refine (K4.out _ HB.out).mono ?_); rintro e w4 ⟨rfl, hb2⟩; have HB := Lib.hid (bstep HB.out hb2 HB.out.size); clear hb2))
  go_ret
  exact ⟨rfl, HB.out⟩
end Go.Proofs.YtnmbbnhgoedjgaaGreatDoor.Ck0

