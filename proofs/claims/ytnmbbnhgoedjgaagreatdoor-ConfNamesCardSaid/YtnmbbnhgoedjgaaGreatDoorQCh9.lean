/- (*reader).iface. (*reader).line. -/
import Derived.Test.YtnmbbnhgoedjgaaGreatDoorQCf1
import Derived.Test.YtnmbbnhgoedjgaaGreatDoorQCf3
import Derived.Test.YtnmbbnhgoedjgaaGreatDoorQCgL
import Derived.Deep.RegionHeld3
import Derived.Deep.RegionLaw
import Derived.Deep.AppendLies
import Derived.BigGuardPart
namespace Go.Proofs.YtnmbbnhgoedjgaaGreatDoor.Ch8
open Go Go.RowKit Go.Proofs.YtnmbbnhgoedjgaaGreatDoor.Ad0 Go.Proofs.YtnmbbnhgoedjgaaGreatDoor.Ad1 Go.Proofs.YtnmbbnhgoedjgaaGreatDoor.St0 Go.Proofs.YtnmbbnhgoedjgaaGreatDoor.St2 Go.Proofs.YtnmbbnhgoedjgaaGreatDoor.St3 Go.Proofs.YtnmbbnhgoedjgaaGreatDoor.Ru0 Go.Proofs.YtnmbbnhgoedjgaaGreatDoor.Ru6 Go.Proofs.YtnmbbnhgoedjgaaGreatDoor.RuB Go.Proofs.YtnmbbnhgoedjgaaGreatDoor.RuC Go.Proofs.YtnmbbnhgoedjgaaGreatDoor.RuE Go.Proofs.YtnmbbnhgoedjgaaGreatDoor.RuY Go.Proofs.YtnmbbnhgoedjgaaGreatDoor.Cf0 Go.Proofs.YtnmbbnhgoedjgaaGreatDoor.Cf4 Go.Proofs.YtnmbbnhgoedjgaaGreatDoor.Cg0 Go.Proofs.YtnmbbnhgoedjgaaGreatDoor.Ch4 Go.Proofs.YtnmbbnhgoedjgaaGreatDoor.Ch7 Go.Proofs.YtnmbbnhgoedjgaaGreatDoor.Ch1 Go.Proofs.YtnmbbnhgoedjgaaGreatDoor.Cf3 Go.Proofs.YtnmbbnhgoedjgaaGreatDoor.CgB Go.Proofs.YtnmbbnhgoedjgaaGreatDoor.CgL
set_option linter.unusedVariables false
set_option linter.unusedSimpArgs false
def modeC : List Value := modes.map fun x => .string ⟨x.toArray⟩
theorem cmodes_any (W : World) : Calls Tryz.prog 77 #[] W fun e w' => e = .returned (.slice (some ⟨W.heap.size, 0, none⟩) 5 5) ∧ w' = W.alloc (.cells modeC.toArray 9) := by
  go_enter Tryz.func77, Tryz.ntmps77
  go_wp2_with fail
  go_ret
  exact ⟨rfl, rfl⟩
/-- An interface's words, and what is told of them. -/
theorem iface_seven (a nm ad n md : Wd) (p : Pfx) (k : Nat) (hp : prefL ad = some p) (hk : modeOf md = some k) (hn : okNum 9 n = true) :
    ifaceOf [a, nm, ad, wMtu, n, wRpf, md] = if isI ⟨nm, p, (dv n : Nat), (k : Nat)⟩ then some ⟨nm, p, (dv n : Nat), (k : Nat)⟩ else none := by
  simp [ifaceOf, hp, hk, hn]
theorem iface_no (a nm ad n md : Wd) (h : prefL ad = none ∨ modeOf md = none ∨ okNum 9 n = false ∨ 65535 < dv n) : ifaceOf [a, nm, ad, wMtu, n, wRpf, md] = none := by
  simp only [ifaceOf, and_self, if_true]
  rcases h with h | h | h | h
  · rw [h]; rfl
  · rw [h]; cases prefL ad <;> rfl
  · rw [h]; cases prefL ad <;> cases modeOf md <;> rfl
  · cases prefL ad with
    | none => rfl
    | some p => cases modeOf md with
      | none => rfl
      | some k =>
        have : isI ⟨nm, p, (dv n : Nat), (k : Nat)⟩ = false := by
          cases hq : isI ⟨nm, p, (dv n : Nat), (k : Nat)⟩ with
          | false => rfl
          | true => have := (isI_facts _ hq).2.2.1.2; simp at this; omega
        simp [this]
theorem iface_short (ws : List Wd) (h : ws.length ≠ 7) : ifaceOf ws = none := by
  unfold ifaceOf
  split
  · simp at h
  · rfl
theorem iface_words (a nm ad m n r md : Wd) (h : ¬ (m = wMtu ∧ r = wRpf)) : ifaceOf [a, nm, ad, m, n, r, md] = none := by
  simp only [ifaceOf, h, if_false]
theorem idx_from : ∀ (l : List Wd) (md : Wd) (i : Nat), Lib.idxFromS (l.map fun x => ⟨x.toArray⟩) ⟨md.toArray⟩ i = match l.findIdx? (· == md) with | some k => ((i + k : Nat) : Int) | none => -1
  | [], md, i => rfl
  | x :: t, md, i => by
    rw [List.map_cons, List.findIdx?_cons]
    unfold Lib.idxFromS
    by_cases h : x = md
    · subst h
      simp
    · have h1 : (x == md) = false := by simpa using h
      have h2 : ¬ ((⟨x.toArray⟩ : ByteArray) = ⟨md.toArray⟩) := fun e => h (by injection e with e; injection e)
      rw [h1, idx_from t md (i + 1)]
      simp only [h2, if_false]
      cases t.findIdx? (· == md) with
      | none => rfl
      | some k =>
        show ((i + 1 + k : Nat) : Int) = ((i + (k + 1) : Nat) : Int)
        rw [show i + 1 + k = i + (k + 1) by omega]
def modeI (md : Wd) : Int := match modeOf md with | some k => (k : Nat) | none => -1
theorem idx_mode (md : Wd) : Lib.idxOfS ((modes.map fun x => (⟨x.toArray⟩ : ByteArray)).take 5) ⟨md.toArray⟩ = modeI md := by
  have e : (modes.map fun x => (⟨x.toArray⟩ : ByteArray)).take 5 = modes.map fun x => (⟨x.toArray⟩ : ByteArray) := rfl
  rw [e]
  unfold Lib.idxOfS modeI modeOf
  rw [idx_from]
  cases modes.findIdx? (· == md) with
  | none => rfl
  | some k => simp
theorem idx_said (md : Wd) (B0 : Nat) (w : World) (h : w.heap[B0]? = some (.cells modeC.toArray 9 (0, 0))) :
    Calls Tryz.prog 104 #[.slice (some ⟨B0, 0, none⟩) 5 5, .string ⟨md.toArray⟩] w fun e w' => e = .returned (.int .i64 (modeI md)) ∧ w' = w := by
  have K := Tryz.slices_Index_string B0 0 5 5 (modes.map fun x => (⟨x.toArray⟩ : ByteArray)) ⟨md.toArray⟩ w (by decide) (by decide) (fun j hj => by
    rw [Nat.zero_add, cell_of_row _ _ _ _ _ _ h]
    have hj : j < 5 := hj
    match j, hj with
    | 0, _ => rfl
    | 1, _ => rfl
    | 2, _ => rfl
    | 3, _ => rfl
    | 4, _ => rfl)
  rw [idx_mode] at K
  exact K
section
variable {g B : Nat} {v1 v2 v3 : Value} {ts : List (NamedM × Value)} {c : ConfM} {W w w' : World}
theorem rdr_below (h : ∃ v', RdrAt g B v' v1 v2 v3 ts c w) (hb : Below w.heap.size w w') : ∃ v', RdrAt g B v' v1 v2 v3 ts c w' := by
  obtain ⟨v', h⟩ := h
  exact ⟨v', h.below hb⟩
theorem line_no {α : Type} {o : Option α} {f : α → ConfM} {e : Ending} (ho : o = none) (he : e = .returned (.bool false)) (hk : Keep B g W w') : LineGot g B (o.map f) W e w' := by
  rw [ho]; exact ⟨he, hk⟩
theorem line_yes {α : Type} {o : Option α} {f : α → ConfM} {e : Ending} {y : α} (ho : o = some y) (he : e = .returned (.bool true)) (hr : ∃ v', RdrAt g B v' v1 v2 v3 ts (f y) w') (hk : Keep B g W w') : LineGot g B (o.map f) W e w' := by
  obtain ⟨v', h⟩ := hr
  rw [ho]; exact ⟨he, ⟨_, _, _, _, _, h⟩, hk⟩
end
theorem info_if : (Tryz.prog.info? 45).map (fun i => (i.zero, i.size, i.bytes)) = some (some (.agg #[.string ⟨#[]⟩, .int .u32 0, .int .i64 0, .int .i64 0, .int .i64 0]), 5, 48) := by kernel_rfl
set_option maxRecDepth 20000 in
set_option maxHeartbeats 8000000 in
theorem iface7_any (HI : IsIfaceSaid) (g B : Nat) (v0 v1 v2 v3 : Value) (ts : List (NamedM × Value)) (c : ConfM) (hn : c.ifaces.length ≤ 1048576) (a nm ad n md : Wd) (b o cap : Nat) (W : World) (hbk : b < W.heap.size) (hcap : (7 : Int) ≤ cap)
    (hr : W.rangeAt b o ([a, nm, ad, wMtu, n, wRpf, md].map fun w => Value.string ⟨w.toArray⟩)) (h1 : ad.length < 4294967281) (h2 : n.length ≤ 9223372036854775807) (h3 : nm.length ≤ 9223372036854775807) (hl : LibOK W) (hR : RdrAt g B v0 v1 v2 v3 ts c W) :
    Calls Tryz.prog 61 #[.pointer (some ⟨g, 0, none⟩), .slice (some ⟨b, o, none⟩) 7 cap] W fun e w' => LineGot g B ((ifaceOf [a, nm, ad, wMtu, n, wRpf, md]).map fun x => { c with ifaces := c.ifaces ++ [x] }) W e w' := by
  have KP := Lib.hid (pref_any ⟨ad.toArray⟩ (by simpa [ByteArray.size] using h1) W hl)
  have KN := Lib.hid (fun W' => cnum_any ⟨n.toArray⟩ (by simpa [ByteArray.size] using h2) W')
  have KM := Lib.hid cmodes_any
  have KX := Lib.hid (idx_said md)
  have HR := Lib.hid hr
  have HRd := Lib.hid hR
  have q3 := hr 3 _ rfl
  have q5 := hr 5 _ rfl
  have q2 := hr 2 _ rfl
  obtain ⟨A, L, E, hv, hok, hE⟩ : ∃ (A : Nat) (L E : Int), prefV (prefL ad) = .tuple #[.agg #[.int .u32 (A : Nat), .int .i64 L], .int .i64 E] ∧ Pfx.ok ⟨A, L⟩ ∧ ((E = 0 ∧ prefL ad = some ⟨A, L⟩) ∨ ((E == 0) = false ∧ prefL ad = none)) := by
    cases hp : prefL ad with
    | none => exact ⟨0, 0, 2, rfl, (by show (0 : Nat) < 4294967296; decide), .inr ⟨by decide, rfl⟩⟩
    | some p => exact ⟨p.addr, p.len, 0, rfl, pref_key ad p hp, .inl ⟨rfl, rfl⟩⟩
  have HE := Lib.hid hE
  have e0 : (⟨ad.toArray⟩ : ByteArray).data.toList = ad := rfl
  rw [e0, hv] at KP
  clear e0 hv hE hr hR hl
  have e1 : (⟨n.toArray⟩ : ByteArray).data.toList = n := rfl
  rw [e1] at KN
  clear e1
  obtain ⟨N, hN⟩ : ∃ N : Int, N = if okNum 9 n then ((dv n : Nat) : Int) else 0 := ⟨_, rfl⟩
  obtain ⟨bn, hbn⟩ : ∃ bn : Bool, bn = okNum 9 n := ⟨_, rfl⟩
  obtain ⟨M, hM⟩ : ∃ M : Int, M = modeI md := ⟨_, rfl⟩
  rw [← hN, ← hbn] at KN
  rw [← hM] at KX
  have HN := Lib.hid hN
  have HBn := Lib.hid hbn
  have HM := Lib.hid hM
  clear hN hbn hM
  go_enter Tryz.func61, Tryz.ntmps61
  go_upto_region 4 with (go_at_call 103; (with_reducible refine KP.out.mono ?_); rintro e w1 ⟨rfl, hb1⟩; have HB := Lib.hid hb1; clear hb1)
  clear q3 q5 q2
  have HR := Lib.hid (range_below HR.out HB.out hbk)
  have hbk1 : b < w1.heap.size := Nat.lt_of_lt_of_le hbk HB.out.size
  have HR := Lib.hid (range_below HR.out (bnew w1 (.cells #[.int .u32 (A : Nat), .int .i64 L] 43)) hbk1)
  have HB := Lib.hid (HB.out.alloc HB.out.size (.cells #[.int .u32 (A : Nat), .int .i64 L] 43))
  have HQ := Lib.hid (heap_alloc_new w1 (.cells #[.int .u32 (A : Nat), .int .i64 L] 43))
  have q4 := HR.out 4 _ rfl
  have hbk2 : b < (w1.alloc (.cells #[.int .u32 (A : Nat), .int .i64 L] 43)).heap.size := by simp; omega
  go_upto_region 5 with (go_at_call 102; (with_reducible refine (KN.out _).mono ?_); rintro e w2 ⟨rfl, hb2⟩; have HR := Lib.hid (range_below HR.out hb2 hbk2); have HB := Lib.hid (bstep HB.out hb2 HB.out.size); have HQ := row_step HQ hb2; clear hb2)
  clear q4 hbk1 hbk2
  have hbk3 : b < w2.heap.size := World.block_lt_of_cell? _ _ (HR.out 6 _ rfl)
  go_cut [9] (fun s9 wc => s9 = .int .i64 M ∧ Below w2.heap.size w2 wc)
  case first =>
    have q6 := HR.out 6 _ rfl
    have KX := Lib.hid (KX.out w2.heap.size ((w2.alloc (.cells modeC.toArray 9)).drew) (heap_alloc_new w2 _))
    go_region_held3 (fun w' => w'.cell? ⟨b, o + 6, none⟩ = some (.string ⟨md.toArray⟩))
      (first | go_keep | (exact ((bnew _ _).cell (by exact hbk3)).trans (by assumption)))
      (first
        | (go_at_call 77; (with_reducible refine (KM.out _).mono ?_); rintro e w3 ⟨rfl, rfl⟩)
        | (go_at_call 104; (with_reducible refine KX.out.mono ?_); rintro e w4 ⟨rfl, rfl⟩))
    all_goals (go_wp2_with fail; go_meet)
    case rel => exact ⟨rfl, boxed _ _⟩
  case rest =>
  obtain ⟨rfl, hb⟩ := hcut
  have HR := Lib.hid (range_below HR.out hb hbk3)
  have HB := Lib.hid (bstep HB.out hb HB.out.size)
  have HQ := row_step HQ hb
  have hbk4 : b < wc.heap.size := World.block_lt_of_cell? _ _ (HR.out 1 _ rfl)
  clear hb hbk3
  go_upto_region 6 with fail
  go_cut [10] (fun s10 wc => ∃ xb, s10 = .pointer (some ⟨xb, 0, none⟩) ∧ wc.heap[xb]? = some (.cells #[.string ⟨nm.toArray⟩, .int .u32 (A : Nat), .int .i64 L, .int .i64 N, .int .i64 M] 45 (0, 0)) ∧ W.heap.size ≤ xb ∧ Below W.heap.size W wc)
  case first =>
    have q1 := HR.out 1 _ rfl
    have g0 := cell_of_row _ _ 0 _ _ _ HQ.out
    have g1 := cell_of_row _ _ 1 _ _ _ HQ.out
    have l0 := World.block_lt_of_cell? _ _ g0
    have l1 := World.block_lt_of_cell? _ _ q1
    go_region
    all_goals (go_wp2_with fail; go_meet)
    case rel => exact ⟨_, rfl, heap_alloc_new _ _, HB.out.size, (HB.out.alloc HB.out.size _).drew⟩
  case rest =>
  obtain ⟨xb, rfl, hx, hxb, hb⟩ := hcut
  have HR0 := HRd
  have HRd := Lib.hid (HRd.out.below hb)
  have HX := Lib.hid hx
  have HBw := Lib.hid hb
  have HB0 := Lib.hid (HR0.out.BW)
  have HNe := Lib.hid (show xb ≠ g from fun e => by have := blk_lt' HR0.out.row; omega)
  clear hx hb HQ HR HB hbk4
  go_upto_region 7 with fail
  go_cut [6] (fun s6 wc => s6 = .int .i64 E ∧ (∃ v', RdrAt g B v' v1 v2 v3 ts { c with ifaces := c.ifaces ++ [⟨nm, ⟨A, L⟩, N, M⟩] } wc) ∧ Keep B g W wc ∧ wc.heap[xb]? = some (.cells #[.string ⟨nm.toArray⟩, .int .u32 (A : Nat), .int .i64 L, .int .i64 N, .int .i64 M] 45 (0, 0)))
  case first =>
    have c0 : wc.cell? ⟨g, 0, none⟩ = some v0 := (cell_of_row _ _ 0 _ _ _ HRd.out.row).trans rfl
    have x0 : wc.cell? ⟨xb, 0, none⟩ = some (.string ⟨nm.toArray⟩) := (cell_of_row _ _ 0 _ _ _ HX.out).trans rfl
    have x1 : wc.cell? ⟨xb, 1, none⟩ = some (.int .u32 (A : Nat)) := (cell_of_row _ _ 1 _ _ _ HX.out).trans rfl
    have x2 : wc.cell? ⟨xb, 2, none⟩ = some (.int .i64 L) := (cell_of_row _ _ 2 _ _ _ HX.out).trans rfl
    have x3 : wc.cell? ⟨xb, 3, none⟩ = some (.int .i64 N) := (cell_of_row _ _ 3 _ _ _ HX.out).trans rfl
    have x4 : wc.cell? ⟨xb, 4, none⟩ = some (.int .i64 M) := (cell_of_row _ _ 4 _ _ _ HX.out).trans rfl
    have gl : g < wc.heap.size := blk_lt' HRd.out.row
    have gB := HRd.out.gB
    have BW := HRd.out.BW
    obtain ⟨i0, hi0, hz0, hz1, hz2⟩ := info_parts info_if
    go_region_law ((refine step_append_lies _ (by rfl) _ _ _ (by rfl) B 45 i0 _ 5 48 Tryz.underlying22 hi0 hz0 hz1 hz2 rfl (by omega) v0 c.ifaces.length (c.ifaces.flatMap ifL) (by rfl) ((HRd.out.rd.r0.alloc _).drew) ⟨wc.heap.size, 0, none⟩ 1 1 (ifL ⟨nm, ⟨A, L⟩, N, M⟩) (by rfl) (by rfl) (World.news_of_block (cs := #[.string ⟨nm.toArray⟩, .int .u32 (A : Nat), .int .i64 L, .int .i64 N, .int .i64 M]) (t := 45) (fr := (0, 0)) (heap_alloc_new wc _)) (by simp [ifL, Value.oneCell']) (by omega) (by unfold maxLen; omega) (by omega) (by simp; omega) (wc.heap.size + 1) (by simp) ?_; intro gg cap' w7 hown1 hgrow hat hlt; have HG := Lib.hid (rdr_grow0 ⟨nm, ⟨A, L⟩, N, M⟩ HRd.out (boxed _ _) hgrow hown1); have HF := Lib.hid (row_far (boxed _ _) hgrow HRd.out.row (own_ne HRd.out.rd.r0 HRd.out.gB)); have HXs := Lib.hid (fun u => box_far (k := 0) (u := u) (boxed _ _) hgrow HX.out (own_old HR0.out.rd.r0 hxb) (HNe.out)); have f0 := frozen_of_row _ _ 0 _ _ HF.out; have d0 : w7.cell? ⟨g, 0, none⟩ = some v0 := (cell_of_row _ _ 0 _ _ _ HF.out).trans rfl))
    all_goals (go_wp2_with fail; go_meet)
    all_goals (case rel => exact ⟨rfl, ⟨_, HG.out.1⟩, (Keep.of (g := g) (HBw.out.mono HB0.out)).trans HG.out.2, HXs.out _⟩)
  case rest =>
  obtain ⟨rfl, hr, hk, hx⟩ := hcut
  have HRd := Lib.hid hr
  have HK := Lib.hid hk
  have HX := Lib.hid hx
  have HW := Lib.hid (hr.elim fun _ h => h.BW)
  clear hr hk hx
  rcases HE.out with ⟨rfl, hp⟩ | ⟨hE, hp⟩
  rotate_left
  · have HZ := Lib.hid (iface_no a nm ad n md (.inl hp))
    clear hp
    go_wp2_with fail
    go_ret
    exact line_no HZ.out rfl HK.out
  cases bn with
  | false =>
    have HZ := Lib.hid (iface_no a nm ad n md (.inr (.inr (.inl HBn.out.symm))))
    clear hp
    go_wp2_with fail
    go_ret
    exact line_no HZ.out rfl HK.out
  | true =>
    have HII := Lib.hid (fun W' => HI ⟨nm, ⟨A, L⟩, N, M⟩ h3 hok W')
    have hN : N = (dv n : Nat) := by have h := HN.out; rw [← HBn.out] at h; simpa using h
    have HZ : Hid (ifaceOf [a, nm, ad, wMtu, n, wRpf, md] = if isI ⟨nm, ⟨A, L⟩, N, M⟩ then some ⟨nm, ⟨A, L⟩, N, M⟩ else none) := by
      cases hm : modeOf md with
      | none =>
        have hM : M = -1 := by rw [HM.out]; unfold modeI; rw [hm]
        have : isI ⟨nm, ⟨A, L⟩, N, M⟩ = false := by
          cases hq : isI ⟨nm, ⟨A, L⟩, N, M⟩ with
          | false => rfl
          | true => have := (isI_facts _ hq).2.2.2.1; simp at this; omega
        show _ = _
        rw [iface_no a nm ad n md (.inr (.inl hm)), this]
        rfl
      | some k =>
        have hM : M = (k : Nat) := by rw [HM.out]; unfold modeI; rw [hm]
        show _ = _
        rw [iface_seven a nm ad n md _ k hp hm HBn.out.symm, hN, hM]
    have HXI := Lib.hid (show (Tryz.prog.info? 45).map (·.size) = some (#[Value.string ⟨nm.toArray⟩, .int .u32 (A : Nat), .int .i64 L, .int .i64 N, .int .i64 M] : Array Value).size by kernel_rfl)
    have HII := Lib.hid (show ∀ W', Calls Tryz.prog 41 #[.agg #[.string ⟨nm.toArray⟩, .int .u32 (A : Nat), .int .i64 L, .int .i64 N, .int .i64 M]] W' _ from HII.out)
    have HBB := Lib.hid HRd
    clear hp hN
    cases hq : isI ⟨nm, ⟨A, L⟩, N, M⟩ with
    | false =>
      rw [hq] at HII HZ
      go_wp2_with (first
        | ((with_reducible refine Mem.load_row xb ?_ HX.out Tryz.underlying45 HXI.out ?_ ?_); rfl; rfl)
        | (go_at_call 41; (with_reducible refine (HII.out _).mono ?_); rintro e w8 ⟨rfl, hb8⟩; have HK := Lib.hid (HK.out.below hb8 HW.out); clear hb8))
      go_ret
      exact line_no HZ.out rfl HK.out
    | true =>
      rw [hq] at HII HZ
      go_wp2_with (first
        | ((with_reducible refine Mem.load_row xb ?_ HX.out Tryz.underlying45 HXI.out ?_ ?_); rfl; rfl)
        | (go_at_call 41; (with_reducible refine (HII.out _).mono ?_); rintro e w8 ⟨rfl, hb8⟩; have HK := Lib.hid (HK.out.below hb8 HW.out); have HRd := Lib.hid (rdr_below HRd.out hb8); clear hb8))
      go_ret
      exact line_yes HZ.out rfl HRd.out HK.out
theorem wd_ne {m k : Wd} (h : m ≠ k) : (m == k) = false := by simpa using h
set_option maxHeartbeats 4000000 in
theorem iface_any (HI : IsIfaceSaid) (g B : Nat) (v0 v1 v2 v3 : Value) (ts : List (NamedM × Value)) (c : ConfM) (hn : c.ifaces.length ≤ 1048576) (ws : List Wd) (hs : ∀ x ∈ ws, x.length < 4294967281) (b o cap : Nat) (W : World) (hbk : b < W.heap.size) (hcap : ws.length ≤ cap)
    (hr : W.rangeAt b o (ws.map fun w => Value.string ⟨w.toArray⟩)) (hl : LibOK W) (hR : RdrAt g B v0 v1 v2 v3 ts c W) :
    Calls Tryz.prog 61 #[.pointer (some ⟨g, 0, none⟩), .slice (some ⟨b, o, none⟩) ws.length cap] W fun e w' => LineGot g B ((ifaceOf ws).map fun x => { c with ifaces := c.ifaces ++ [x] }) W e w' := by
  by_cases h7 : ws.length = 7
  rotate_left
  · have HZ := Lib.hid (iface_short ws h7)
    have h7' : ((ws.length : Int) != 7) = true := by simpa using fun e : (ws.length : Int) = 7 => h7 (by omega)
    clear hr hl hs h7 hR
    go_enter Tryz.func61, Tryz.ntmps61
    go_wp2_with fail
    go_ret
    exact line_no HZ.out rfl (Keep.refl _ _ _)
  match ws, h7 with
  | [a, nm, ad, m, n, r, md], _ =>
    have hc7 : (7 : Int) ≤ cap := by simp at hcap; omega
    by_cases hm : m = wMtu
    rotate_left
    · have HZ := Lib.hid (iface_words a nm ad m n r md fun h => hm h.1)
      have q3 : W.cell? ⟨b, o + 3, none⟩ = some (.string ⟨m.toArray⟩) := hr 3 _ rfl
      have hm' : (m == [109, 116, 117]) = false := wd_ne hm
      clear hr hl hs hm hR
      go_enter Tryz.func61, Tryz.ntmps61
      go_wp2_with fail
      go_ret
      exact line_no HZ.out rfl (Keep.refl _ _ _)
    subst hm
    by_cases hm : r = wRpf
    rotate_left
    · have HZ := Lib.hid (iface_words a nm ad wMtu n r md fun h => hm h.2)
      have q3 : W.cell? ⟨b, o + 3, none⟩ = some (.string ⟨#[109, 116, 117]⟩) := hr 3 _ rfl
      have q5 : W.cell? ⟨b, o + 5, none⟩ = some (.string ⟨r.toArray⟩) := hr 5 _ rfl
      have hm' : (r == [114, 112, 102]) = false := wd_ne hm
      clear hr hl hs hm hR
      go_enter Tryz.func61, Tryz.ntmps61
      go_wp2_with fail
      go_ret
      exact line_no HZ.out rfl (Keep.refl _ _ _)
    subst hm
    exact iface7_any HI g B v0 v1 v2 v3 ts c hn a nm ad n md b o cap W hbk hc7 hr (hs ad (by simp)) (by have := hs n (by simp); omega) (by have := hs nm (by simp); omega) hl hR
end Go.Proofs.YtnmbbnhgoedjgaaGreatDoor.Ch8

namespace Go.Proofs.YtnmbbnhgoedjgaaGreatDoor.Ch9
open Go Go.RowKit Go.Proofs.YtnmbbnhgoedjgaaGreatDoor.St2 Go.Proofs.YtnmbbnhgoedjgaaGreatDoor.St3 Go.Proofs.YtnmbbnhgoedjgaaGreatDoor.Ru0 Go.Proofs.YtnmbbnhgoedjgaaGreatDoor.Ru1 Go.Proofs.YtnmbbnhgoedjgaaGreatDoor.Ru4 Go.Proofs.YtnmbbnhgoedjgaaGreatDoor.Ru6 Go.Proofs.YtnmbbnhgoedjgaaGreatDoor.RuB Go.Proofs.YtnmbbnhgoedjgaaGreatDoor.RuC Go.Proofs.YtnmbbnhgoedjgaaGreatDoor.RuY Go.Proofs.YtnmbbnhgoedjgaaGreatDoor.Cf0 Go.Proofs.YtnmbbnhgoedjgaaGreatDoor.Cf4 Go.Proofs.YtnmbbnhgoedjgaaGreatDoor.Cg0 Go.Proofs.YtnmbbnhgoedjgaaGreatDoor.Ch4 Go.Proofs.YtnmbbnhgoedjgaaGreatDoor.Ch7 Go.Proofs.YtnmbbnhgoedjgaaGreatDoor.Ch1 Go.Proofs.YtnmbbnhgoedjgaaGreatDoor.CgB Go.Proofs.YtnmbbnhgoedjgaaGreatDoor.CgL Go.Proofs.YtnmbbnhgoedjgaaGreatDoor.Ch8 Go.Proofs.YtnmbbnhgoedjgaaGreatDoor.Ch2
set_option linter.unusedVariables false
set_option linter.unusedSimpArgs false
theorem line_flows (c : ConfM) (l : Wd) (t : List Wd) : lineL c l (wFlows :: t) = (onceOf (decide (c.flows ≠ 0)) (wFlows :: t) 1 64).map fun n => { c with flows := (n : Nat) } := by
  unfold lineL onceOf
  by_cases h : c.flows = 0
  · match t with
    | [] => simp [h]
    | [s] => simp [h]
    | _ :: _ :: _ => simp [h]
  · simp [h]
theorem line_errors (c : ConfM) (l : Wd) (t : List Wd) : lineL c l (wErrors :: t) = (onceOf (decide (0 ≤ c.errors)) (wErrors :: t) 0 100).map fun n => { c with errors := (n : Nat) } := by
  have hne : ¬ wErrors = wFlows := by decide
  unfold lineL onceOf
  by_cases h : 0 ≤ c.errors
  · simp [h, hne]
  · match t with
    | [] => simp [h, hne]
    | [s] => simp [h, hne]
    | _ :: _ :: _ => simp [h, hne]
theorem line_iface (c : ConfM) (l : Wd) (t : List Wd) : lineL c l (wIface :: t) = (ifaceOf (wIface :: t)).map fun x => { c with ifaces := c.ifaces ++ [x] } := rfl
theorem line_table (c : ConfM) (l : Wd) (t : List Wd) : lineL c l (wTable :: t) = (tableOf (wTable :: t)).map fun x => { c with tables := c.tables ++ [x] } := rfl
theorem line_bogon (c : ConfM) (l : Wd) (t : List Wd) : lineL c l (wBogon :: t) = match prefsOf t with
    | some [p] => some { c with bogons := c.bogons ++ [p] }
    | _ => none := by
  show (match t with
      | [s] => (prefOK s).map fun p => { c with bogons := c.bogons ++ [p] }
      | _ => none) = _
  match t with
  | [] => rfl
  | [s] =>
    show (prefOK s).map _ = match (prefOK s).bind fun p => (prefsOf []).map fun l => p :: l with
      | some [p] => some { c with bogons := c.bogons ++ [p] }
      | _ => none
    cases prefOK s <;> rfl
  | s :: s' :: r =>
    have hl : ∀ l, prefsOf (s :: s' :: r) = some l → l.length = r.length + 2 := fun l h => by rw [prefs_len _ _ h]; simp
    cases hp : prefsOf (s :: s' :: r) with
    | none => rfl
    | some l =>
      have := hl l hp
      match l, this with
      | _ :: _ :: _, _ => rfl
def kinds : List Wd := [wFlows, wErrors, wIface, wBogon, wTable]
theorem line_rule (c : ConfM) (l h : Wd) (t : List Wd) (hn : h ∉ kinds) : lineL c l (h :: t) = (ruleOf (wordsL l)).map fun r => { c with rules := c.rules ++ [r] } := by
  simp only [kinds, List.mem_cons, List.not_mem_nil, or_false, not_or] at hn
  unfold lineL
  simp [hn]
theorem once_pos {t : Bool} {ws : List Wd} {low high n : Nat} (h : onceOf t ws low high = some n) : low ≤ n := by
  unfold onceOf at h
  cases t with
  | true => cases h
  | false =>
    match ws with
    | [] => cases h
    | [_] => cases h
    | [_, s] =>
      have h : numIn s low high = some n := h
      unfold numIn at h
      split at h
      · rename_i hh
        simp only [Bool.and_eq_true, decide_eq_true_eq] at hh
        cases h
        exact hh.2.1
      · cases h
    | _ :: _ :: _ :: _ => cases h
theorem info_nm : (Tryz.prog.info? 66).map (fun i => (i.zero, i.size, i.bytes)) = some (some (.agg #[.string ⟨#[]⟩, .slice none 0 0]), 2, 40) := by kernel_rfl
theorem info_rl : (Tryz.prog.info? 75).map (fun i => (i.zero, i.size, i.bytes)) = some (some (.agg (ruleC {})), 28, 248) := by kernel_rfl
section
variable {g B : Nat} {v0 v1 v2 v3 : Value} {ts : List (NamedM × Value)} {c : ConfM} {W w' : World}
theorem keep_two (h : RdrAt g B v0 v1 v2 v3 ts c W) (k : Kept2 W g w') : Keep B g W w' := by
  obtain ⟨w1, hb, hg⟩ := k
  exact (Keep.of (hb.mono h.BW)).trans ⟨hg.os, hg.tape, hg.output, hg.size, fun k hk hn => hg.block k (Nat.lt_of_lt_of_le hk (Nat.le_trans h.BW hb.size)) (by intro e; cases e; exact hn rfl)⟩
theorem set_two {a b : Nat} {u u' : Value} {w1 : World} (h : RdrAt g B v0 v1 v2 v3 ts c W) (hb : Below W.heap.size W w1) (c' : ConfM) (hc : ((rdC v0 v1 v2 v3 c).setIfInBounds a u).setIfInBounds b u' = rdC v0 v1 v2 v3 c')
    (h0 : c'.ifaces = c.ifaces) (h1 : c'.bogons = c.bogons) (h2 : c'.tables = c.tables) (h3 : c'.rules = c.rules) : RdrAt g B v0 v1 v2 v3 ts c' ((w1.setCell ⟨g, a, none⟩ u).setCell ⟨g, b, none⟩ u') := by
  have k := h.below hb
  have r := set_at (k := b) (v := u') (set_at (k := a) (v := u) k.row)
  rw [hc] at r
  have rd := (k.rd.kept (grown_set w1 g a u) (fun k e => by cases e; exact h.gB)).kept (grown_set _ g b u') (fun k e => by cases e; exact h.gB)
  refine ⟨r, ⟨by rw [h0]; exact rd.r0, by rw [h1]; exact rd.r1, rd.r2, by rw [h3]; exact rd.r3, by rw [h2]; exact rd.tab, rd.tin, rd.tap⟩, h.gB, ?_⟩
  rw [set_size, set_size]
  exact k.BW
theorem kept_drew (k : Kept2 W.drew g w') : Kept2 W g w' := by
  obtain ⟨w1, hb, hg⟩ := k
  exact ⟨w1, ((Below.refl _ W).drew).trans hb, hg⟩
theorem got_some {o : Option ConfM} {c' : ConfM} {e : Ending} (ho : o = some c') (he : e = .returned (.bool true)) (hr : ∃ v0 v1 v2 v3 ts, RdrAt g B v0 v1 v2 v3 ts c' w') (hk : Keep B g W w') : LineGot g B o W e w' := by
  rw [ho]; exact ⟨he, hr, hk⟩
theorem got_none {o : Option ConfM} {e : Ending} (ho : o = none) (he : e = .returned (.bool false)) (hk : Keep B g W w') : LineGot g B o W e w' := by
  rw [ho]; exact ⟨he, hk⟩
end
set_option maxRecDepth 20000 in
set_option maxHeartbeats 4000000 in
theorem flows_any (g B : Nat) (v0 v1 v2 v3 : Value) (ts : List (NamedM × Value)) (c : ConfM) (l : Wd) (t : List Wd) (b o cap : Nat) (W : World) (hbk : b < W.heap.size) (hcap : t.length + 1 ≤ cap) (hn : t.length ≤ 1048576)
    (hs : ∀ x ∈ t, x.length < 4294967281) (hr : W.rangeAt b o ((wFlows :: t).map fun w => Value.string ⟨w.toArray⟩)) (hl : LibOK W) (hR : RdrAt g B v0 v1 v2 v3 ts c W) :
    Calls Tryz.prog 27 #[.pointer (some ⟨g, 0, none⟩), .string ⟨l.toArray⟩, .slice (some ⟨b, o, none⟩) (t.length + 1 : Nat) cap] W fun e w' => LineGot g B (lineL c l (wFlows :: t)) W e w' := by
  have c0 : W.cell? ⟨b, o, none⟩ = some (.string ⟨#[102, 108, 111, 119, 115]⟩) := hr 0 _ rfl
  have KO := once_any (decide (c.flows ≠ 0)) c.flows g 4 6 (by decide) (wFlows :: t) (fun x hx => by
    rcases List.mem_cons.1 hx with rfl | hx
    · decide
    · have := hs x hx; omega) 1 64 (.slice (some ⟨b, o, none⟩) (t.length + 1 : Nat) cap) W.drew ⟨_, _, rfl, by simpa using hcap, .inr ⟨b, o, rfl, hbk, hr⟩⟩
    ((cell_of_row _ _ 4 _ _ _ hR.row).trans rfl) ((cell_of_row _ _ 6 _ _ _ hR.row).trans rfl) (fun w1 hb => frozen_of_row _ _ 4 _ _ (hR.below (((Below.refl _ W).drew).trans hb)).row) (fun w1 hb => frozen_of_row _ _ 6 _ _ (hR.below (((Below.refl _ W).drew).trans hb)).row)
  have KO : Calls Tryz.prog 60 #[.pointer (some ⟨g, 4, none⟩), .pointer (some ⟨g, 6, none⟩), .slice (some ⟨b, o, none⟩) (t.length + 1 : Nat) cap, .int .i64 1, .int .i64 64] W.drew _ := KO
  have HRd := Lib.hid hR
  clear hr hs hl hR
  have HL := Lib.hid (line_flows c l t)
  cases ho : onceOf (decide (c.flows ≠ 0)) (wFlows :: t) 1 64 with
  | none =>
    rw [ho] at KO
    have KO := Lib.hid KO
    have HZ := Lib.hid (show lineL c l (wFlows :: t) = none by rw [HL.out, ho]; rfl)
    clear ho HL
    go_enter Tryz.func27, Tryz.ntmps27
    go_wp2_with fail
    go_region_held3 (fun w' => True) (trivial) ((go_at_call 60; (with_reducible refine KO.out.mono ?_); rintro e w1 ⟨rfl, hk⟩; have HK := Lib.hid hk; clear hk))
    go_wp2_with fail
    go_ret
    exact got_none HZ.out rfl (keep_two HRd.out (kept_drew HK.out))
  | some n =>
    rw [ho] at KO
    have KO := Lib.hid KO
    have hpos := once_pos ho
    have HZ := Lib.hid (show lineL c l (wFlows :: t) = some { c with flows := (n : Nat) } by rw [HL.out, ho]; rfl)
    clear ho HL
    go_enter Tryz.func27, Tryz.ntmps27
    go_wp2_with fail
    go_region_held3 (fun w' => True) (trivial) ((go_at_call 60; (with_reducible refine KO.out.mono ?_); rintro e w1 ⟨rfl, w2, hb, rfl⟩; have HB := Lib.hid (((Below.refl _ W).drew).trans hb); clear hb))
    go_wp2_with fail
    go_ret
    exact got_some HZ.out rfl ⟨_, _, _, _, _, set_two HRd.out HB.out _ (by simp [rdC]; try omega) rfl rfl rfl rfl⟩ (keep_two HRd.out (two_low HB.out (blk_lt' HRd.out.row)))
set_option maxRecDepth 20000 in
set_option maxHeartbeats 4000000 in
theorem errors_any (g B : Nat) (v0 v1 v2 v3 : Value) (ts : List (NamedM × Value)) (c : ConfM) (l : Wd) (t : List Wd) (b o cap : Nat) (W : World) (hbk : b < W.heap.size) (hcap : t.length + 1 ≤ cap) (hn : t.length ≤ 1048576)
    (hs : ∀ x ∈ t, x.length < 4294967281) (hr : W.rangeAt b o ((wErrors :: t).map fun w => Value.string ⟨w.toArray⟩)) (hl : LibOK W) (hR : RdrAt g B v0 v1 v2 v3 ts c W) :
    Calls Tryz.prog 27 #[.pointer (some ⟨g, 0, none⟩), .string ⟨l.toArray⟩, .slice (some ⟨b, o, none⟩) (t.length + 1 : Nat) cap] W fun e w' => LineGot g B (lineL c l (wErrors :: t)) W e w' := by
  have c0 : W.cell? ⟨b, o, none⟩ = some (.string ⟨#[101, 114, 114, 111, 114, 115]⟩) := hr 0 _ rfl
  have KO := once_any (decide (0 ≤ c.errors)) (if 0 ≤ c.errors then c.errors else 0) g 5 7 (by decide) (wErrors :: t) (fun x hx => by
    rcases List.mem_cons.1 hx with rfl | hx
    · decide
    · have := hs x hx; omega) 0 100 (.slice (some ⟨b, o, none⟩) (t.length + 1 : Nat) cap) W.drew ⟨_, _, rfl, by simpa using hcap, .inr ⟨b, o, rfl, hbk, hr⟩⟩
    ((cell_of_row _ _ 5 _ _ _ hR.row).trans rfl) ((cell_of_row _ _ 7 _ _ _ hR.row).trans rfl) (fun w1 hb => frozen_of_row _ _ 5 _ _ (hR.below (((Below.refl _ W).drew).trans hb)).row) (fun w1 hb => frozen_of_row _ _ 7 _ _ (hR.below (((Below.refl _ W).drew).trans hb)).row)
  have KO : Calls Tryz.prog 60 #[.pointer (some ⟨g, 5, none⟩), .pointer (some ⟨g, 7, none⟩), .slice (some ⟨b, o, none⟩) (t.length + 1 : Nat) cap, .int .i64 0, .int .i64 100] W.drew _ := KO
  have HRd := Lib.hid hR
  clear hr hs hl hR
  have HL := Lib.hid (line_errors c l t)
  cases ho : onceOf (decide (0 ≤ c.errors)) (wErrors :: t) 0 100 with
  | none =>
    rw [ho] at KO
    have KO := Lib.hid KO
    have HZ := Lib.hid (show lineL c l (wErrors :: t) = none by rw [HL.out, ho]; rfl)
    clear ho HL
    go_enter Tryz.func27, Tryz.ntmps27
    go_wp2_with fail
    go_region_held3 (fun w' => True) (trivial) ((go_at_call 60; (with_reducible refine KO.out.mono ?_); rintro e w1 ⟨rfl, hk⟩; have HK := Lib.hid hk; clear hk))
    go_wp2_with fail
    go_ret
    exact got_none HZ.out rfl (keep_two HRd.out (kept_drew HK.out))
  | some n =>
    rw [ho] at KO
    have KO := Lib.hid KO
    have hpos := once_pos ho
    have HZ := Lib.hid (show lineL c l (wErrors :: t) = some { c with errors := (n : Nat) } by rw [HL.out, ho]; rfl)
    clear ho HL
    go_enter Tryz.func27, Tryz.ntmps27
    go_wp2_with fail
    go_region_held3 (fun w' => True) (trivial) ((go_at_call 60; (with_reducible refine KO.out.mono ?_); rintro e w1 ⟨rfl, w2, hb, rfl⟩; have HB := Lib.hid (((Below.refl _ W).drew).trans hb); clear hb))
    go_wp2_with fail
    go_ret
    exact got_some HZ.out rfl ⟨_, _, _, _, _, set_two HRd.out HB.out _ (by simp [rdC]; try omega) rfl rfl rfl rfl⟩ (keep_two HRd.out (two_low HB.out (blk_lt' HRd.out.row)))
set_option maxRecDepth 20000 in
set_option maxHeartbeats 4000000 in
theorem iface_line (HI : IsIfaceSaid) (g B : Nat) (v0 v1 v2 v3 : Value) (ts : List (NamedM × Value)) (c : ConfM) (hni : c.ifaces.length ≤ 1048576) (l : Wd) (t : List Wd) (b o cap : Nat) (W : World) (hbk : b < W.heap.size) (hcap : t.length + 1 ≤ cap) (hn : t.length ≤ 1048576)
    (hs : ∀ x ∈ t, x.length < 4294967281) (hr : W.rangeAt b o ((wIface :: t).map fun w => Value.string ⟨w.toArray⟩)) (hl : LibOK W) (hR : RdrAt g B v0 v1 v2 v3 ts c W) :
    Calls Tryz.prog 27 #[.pointer (some ⟨g, 0, none⟩), .string ⟨l.toArray⟩, .slice (some ⟨b, o, none⟩) (t.length + 1 : Nat) cap] W fun e w' => LineGot g B (lineL c l (wIface :: t)) W e w' := by
  have c0 : W.cell? ⟨b, o, none⟩ = some (.string ⟨#[105, 102, 97, 99, 101]⟩) := hr 0 _ rfl
  have KO := iface_any HI g B v0 v1 v2 v3 ts c hni (wIface :: t) (fun x hx => by
    rcases List.mem_cons.1 hx with rfl | hx
    · decide
    · exact hs x hx) b o cap W hbk (by simpa using hcap) hr hl hR
  rw [List.length_cons] at KO
  clear hr hs hl hR
  unfold LineGot at KO
  have HL := Lib.hid (line_iface c l t)
  cases ho : ifaceOf (wIface :: t) with
  | none =>
    rw [ho] at KO
    have KO := Lib.hid KO
    have HZ := Lib.hid (show lineL c l (wIface :: t) = none by rw [HL.out, ho]; rfl)
    clear ho HL
    go_enter Tryz.func27, Tryz.ntmps27
    go_wp2_with (go_at_call 61; (with_reducible refine KO.out.mono ?_); rintro e w1 ⟨rfl, hk⟩; have HK := Lib.hid hk; clear hk)
    go_ret
    exact got_none HZ.out rfl HK.out
  | some x =>
    rw [ho] at KO
    have KO := Lib.hid KO
    have HZ := Lib.hid (show lineL c l (wIface :: t) = some { c with ifaces := c.ifaces ++ [x] } by rw [HL.out, ho]; rfl)
    clear ho HL
    go_enter Tryz.func27, Tryz.ntmps27
    go_wp2_with (go_at_call 61; (with_reducible refine KO.out.mono ?_); rintro e w1 ⟨rfl, hr, hk⟩; have HR := Lib.hid hr; have HK := Lib.hid hk; clear hk hr)
    go_ret
    exact got_some HZ.out rfl HR.out HK.out
end Go.Proofs.YtnmbbnhgoedjgaaGreatDoor.Ch9

