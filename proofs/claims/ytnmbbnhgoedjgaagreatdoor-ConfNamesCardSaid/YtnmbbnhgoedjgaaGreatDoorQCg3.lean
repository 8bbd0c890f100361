/- conf.printed. -/
import Derived.Test.YtnmbbnhgoedjgaaGreatDoorQCf1
import Derived.Test.YtnmbbnhgoedjgaaGreatDoorQCgL
import Derived.Test.YtnmbbnhgoedjgaaGreatDoorQCgM
import Derived.Test.YtnmbbnhgoedjgaaGreatDoorQCgR
import Derived.Test.YtnmbbnhgoedjgaaGreatDoorQHr
import Derived.Test.YtnmbbnhgoedjgaaGreatDoorQCg0
import Derived.Deep.RegionHeld3
import Derived.Deep.DeepCutAuto
namespace Go.Proofs.YtnmbbnhgoedjgaaGreatDoor.Cg3
open Go Go.RowKit Go.Proofs.YtnmbbnhgoedjgaaGreatDoor.Ad0 Go.Proofs.YtnmbbnhgoedjgaaGreatDoor.Ad1 Go.Proofs.YtnmbbnhgoedjgaaGreatDoor.St2 Go.Proofs.YtnmbbnhgoedjgaaGreatDoor.St3 Go.Proofs.YtnmbbnhgoedjgaaGreatDoor.B1 Go.Proofs.YtnmbbnhgoedjgaaGreatDoor.Ad3 Go.Proofs.YtnmbbnhgoedjgaaGreatDoor.St4 Go.Proofs.YtnmbbnhgoedjgaaGreatDoor.Ru0 Go.Proofs.YtnmbbnhgoedjgaaGreatDoor.Ru1 Go.Proofs.YtnmbbnhgoedjgaaGreatDoor.Ru4 Go.Proofs.YtnmbbnhgoedjgaaGreatDoor.Ru6 Go.Proofs.YtnmbbnhgoedjgaaGreatDoor.RuB Go.Proofs.YtnmbbnhgoedjgaaGreatDoor.RuC Go.Proofs.YtnmbbnhgoedjgaaGreatDoor.RuJ Go.Proofs.YtnmbbnhgoedjgaaGreatDoor.RuY Go.Proofs.YtnmbbnhgoedjgaaGreatDoor.Cf0 Go.Proofs.YtnmbbnhgoedjgaaGreatDoor.Cf4 Go.Proofs.YtnmbbnhgoedjgaaGreatDoor.Cf6 Go.Proofs.YtnmbbnhgoedjgaaGreatDoor.Cg0 Go.Proofs.YtnmbbnhgoedjgaaGreatDoor.Cg1 Go.Proofs.YtnmbbnhgoedjgaaGreatDoor.CgB Go.Proofs.YtnmbbnhgoedjgaaGreatDoor.CgL Go.Proofs.YtnmbbnhgoedjgaaGreatDoor.CgM Go.Proofs.YtnmbbnhgoedjgaaGreatDoor.Hr
set_option linter.unusedVariables false
set_option linter.unusedSimpArgs false
/-- What the walk of conf.printed keeps: the argument's box, the builder that holds the lines so far. -/
structure PrI (W : World) (cs : Array Value) (L : List Wd) (w : World) : Prop where
  box : w.heap[W.heap.size]? = some (.cells cs 27 (0, 0))
  bld : Bld (W.heap.size + 1) (W.heap.size + 1) (unlines L) w
  low : Below W.heap.size W w
  lt : W.heap.size + 1 < w.heap.size
section
variable {W : World} {cs : Array Value} {L : List Wd}
theorem PrI.below {w w' : World} (h : PrI W cs L w) (hb : Below w.heap.size w w') : PrI W cs L w' :=
  ⟨(hb.block _ (by have := h.lt; omega)).trans h.box, h.bld.below hb, bstep h.low hb h.low.size, Nat.lt_of_lt_of_le h.lt hb.size⟩
theorem unlines_one (L : List Wd) (x : Wd) : unlines L ++ (x ++ [10]) = unlines (L ++ [x]) := by simp [unlines]
/-- A row made of strings. -/
theorem sl_new (w : World) (ws : List Wd) (T : TypeId) : Sl (w.alloc (.cells (ws.map fun x => Value.string ⟨x.toArray⟩).toArray T)) (.slice (some ⟨w.heap.size, 0, none⟩) ws.length ws.length) ws.length (ws.map fun x => .string ⟨x.toArray⟩) := by
  refine ⟨_, _, rfl, Nat.le_refl _, .inr ⟨w.heap.size, 0, rfl, by simp, fun j u hj => ?_⟩⟩
  rw [Nat.zero_add, cell_of_row _ _ _ _ _ _ (heap_alloc_new w _)]
  simpa using hj
/-- What a line's call leaves. -/
structure Lined (W : World) (cs : Array Value) (L : List Wd) (w1 w' : World) : Prop where
  pr : PrI W cs L w'
  kept : Kept (W.heap.size + 1) w1 w'
  size : w1.heap.size ≤ w'.heap.size
/-- The closure's call. -/
theorem PrI.line {w w1 : World} (h : PrI W cs L w) (hw : Below w.heap.size w w1) (ws : List Wd) (hne : ws ≠ []) (v : Value) (hS : Sl w1 v ws.length (ws.map fun x => .string ⟨x.toArray⟩)) (hn : ws.length ≤ 1048576) (hlen : (unlines (L ++ [spaced ws])).length ≤ 140737488355328) :
    Calls Tryz.prog 72 #[v, .pointer (some ⟨W.heap.size + 1, 0, none⟩)] w1 fun e w' => e = .returned (.tuple #[]) ∧ Lined W cs (L ++ [spaced ws]) w1 w' := by
  have h' := h.below hw
  refine (line_any _ _ _ ws hne v w1 h'.bld hS (by have := h'.lt; omega) hn (by rw [← unlines_one] at hlen; simp at hlen; omega)).mono ?_
  rintro e w' ⟨rfl, hb, hl, hk⟩
  rw [unlines_one] at hb
  exact ⟨rfl, ⟨(hl.block _ (by omega)).trans h'.box, hb, h'.low.trans (hl.mono (by omega)), Nat.lt_of_lt_of_le h'.lt hl.size⟩, hk, hl.size⟩
/-- The same, at a row that has just been made. -/
theorem PrI.made {w : World} (h : PrI W cs L w) (ws : List Wd) (hne : ws ≠ []) (hn : ws.length ≤ 1048576) (hlen : (unlines (L ++ [spaced ws])).length ≤ 140737488355328) (T : TypeId) :
    Calls Tryz.prog 72 #[.slice (some ⟨w.heap.size, 0, none⟩) ws.length ws.length, .pointer (some ⟨W.heap.size + 1, 0, none⟩)] (w.alloc (.cells (ws.map fun x => Value.string ⟨x.toArray⟩).toArray T)) fun e w' => e = .returned (.tuple #[]) ∧ Lined W cs (L ++ [spaced ws]) (w.alloc (.cells (ws.map fun x => Value.string ⟨x.toArray⟩).toArray T)) w' :=
  h.line (bnew w _) ws hne _ (sl_new w ws T) hn hlen
end
theorem pre_take {α : Type} (A : List Wd) (l : List α) (F : α → Wd) (B : List Wd) (k : Nat) (x : α) (hx : l[k]? = some x) : (A ++ (l.take k).map F) ++ [F x] = A ++ (l.take (k + 1)).map F := by
  rw [List.take_add_one, hx]
  simp
theorem unlines_len_le (A B : List Wd) : (unlines A).length ≤ (unlines (A ++ B)).length := by simp [unlines]
theorem take_fits {α : Type} (A B : List Wd) (l : List α) (F : α → Wd) (k m : Nat) (h : (unlines (A ++ (l.map F ++ B))).length ≤ m) : (unlines (A ++ (l.take k).map F)).length ≤ m := by
  refine Nat.le_trans ?_ h
  have e : A ++ (l.map F ++ B) = (A ++ (l.take k).map F) ++ ((l.drop k).map F ++ B) := by
    rw [List.append_assoc, ← List.append_assoc (List.map F _), ← List.map_append, List.take_append_drop]
  rw [e]
  exact unlines_len_le _ _
theorem row_new {w : World} {g : Nat} {o o' : Obj} (h : w.heap[g]? = some o) : (w.alloc o').heap[g]? = some o := (row_step (Lib.hid h) (bnew w o')).out
theorem five {cs : Array Value} {c0 c1 c2 c3 c4 : Value} {xb : Nat} {T : TypeId} {w : World} (h : cs[0]? = some c0 ∧ cs[1]? = some c1 ∧ cs[2]? = some c2 ∧ cs[3]? = some c3 ∧ cs[4]? = some c4) (hr : w.heap[xb]? = some (.cells cs T (0, 0))) :
    w.cell? ⟨xb, 0, none⟩ = some c0 ∧ w.cell? ⟨xb, 1, none⟩ = some c1 ∧ w.cell? ⟨xb, 2, none⟩ = some c2 ∧ w.cell? ⟨xb, 3, none⟩ = some c3 ∧ w.cell? ⟨xb, 4, none⟩ = some c4 :=
  ⟨(cell_of_row _ _ 0 _ _ _ hr).trans h.1, (cell_of_row _ _ 1 _ _ _ hr).trans h.2.1, (cell_of_row _ _ 2 _ _ _ hr).trans h.2.2.1, (cell_of_row _ _ 3 _ _ _ hr).trans h.2.2.2.1, (cell_of_row _ _ 4 _ _ _ hr).trans h.2.2.2.2⟩
theorem made_at {W : World} {cs : Array Value} {L : List Wd} {w : World} (h : PrI W cs L w) {ws us : List Wd} (e : ws = us) (hne : us ≠ []) (hn : us.length ≤ 1048576) (hlen : (unlines (L ++ [spaced ws])).length ≤ 140737488355328) (T : TypeId) {g : Nat} (hg : g = w.heap.size) :
    Calls Tryz.prog 72 #[.slice (some ⟨g, 0, none⟩) us.length us.length, .pointer (some ⟨W.heap.size + 1, 0, none⟩)] (w.alloc (.cells (us.map fun x => Value.string ⟨x.toArray⟩).toArray T)) fun e w' => e = .returned (.tuple #[]) ∧ Lined W cs (L ++ [spaced ws]) (w.alloc (.cells (us.map fun x => Value.string ⟨x.toArray⟩).toArray T)) w' := by
  subst e hg
  exact h.made ws hne hn hlen T
theorem spaced_one (x : Wd) : spaced [x] = x := by simp [spaced]
theorem spaced_fun : (fun r => spaced [printed r]) = printed := funext fun r => spaced_one _
def wordsT (nm : Wd) (l : List Pfx) (j : Nat) : List Wd := wTable :: nm :: (l.take j).map printP
theorem words_next (nm : Wd) (l : List Pfx) (j : Nat) (p : Pfx) (hp : l[j]? = some p) : (wordsT nm l j).length + 1 = (wordsT nm l (j + 1)).length ∧ ((wordsT nm l j).map fun x => Value.string ⟨x.toArray⟩) ++ [.string ⟨(printP p).toArray⟩] = (wordsT nm l (j + 1)).map fun x => Value.string ⟨x.toArray⟩ := by
  unfold wordsT
  rw [List.take_add_one, hp]
  constructor
  · simp
  · simp
theorem words_all (nm : Wd) (l : List Pfx) : wordsT nm l l.length = tableW ⟨nm, l⟩ := by
  unfold wordsT tableW
  rw [List.take_length]
theorem mode_at : ∀ r : Nat, r < 5 → (modes.map fun x => Value.string ⟨x.toArray⟩).toArray[r]? = some (.string ⟨(modeW (r : Int)).toArray⟩) := by
  intro r hr
  match r, hr with
  | 0, _ => rfl
  | 1, _ => rfl
  | 2, _ => rfl
  | 3, _ => rfl
  | 4, _ => rfl
def modeC : List Value := modes.map fun x => .string ⟨x.toArray⟩
theorem cmodes_any (W : World) : Calls Tryz.prog 77 #[] W fun e w' => e = .returned (.slice (some ⟨W.heap.size, 0, none⟩) 5 5) ∧ w' = W.alloc (.cells modeC.toArray 9) := by
  go_enter Tryz.func77, Tryz.ntmps77
  go_wp2_with fail
  go_ret
  exact ⟨rfl, rfl⟩
set_option maxRecDepth 20000 in
set_option maxHeartbeats 8000000 in
theorem printed_any (KPR : PrintSaid) (c : ConfM) (v0 v1 v2 v3 : Value) (ts : List (NamedM × Value)) (W : World) (h : ConfIn W v0 v1 v2 v3 ts c) (hf : FitC c) (hc : isC0 c = true) (hl : LibOK W) (hT : (unlines (linesT c)).length ≤ 140737488355328) :
    Calls Tryz.prog 34 #[.agg (confC v0 v1 v2 v3 c)] W fun e w' => e = .returned (.string ⟨(textC c).toArray⟩) ∧ Below W.heap.size W w' := by
  have I0 := isC0_facts c hc
  have KPR := Lib.hid KPR
  have K1 := Lib.hid (fun (n : Int) (h0 : 0 ≤ n) (h1 : n ≤ 9223372036854775807) W' hL => itoa_any n (by omega) h1 W' hL)
  have KF := Lib.hid (fun W' hL => itoa_any c.flows (by have := I0.f0; omega) (by have := I0.f1; omega) W' hL)
  have KE := Lib.hid (fun W' hL => itoa_any c.errors (by have := I0.e0; omega) (by have := I0.e1; omega) W' hL)
  have KM := Lib.hid cmodes_any
  have HW := Lib.hid h
  have HL := Lib.hid (fun W' (hb : Below W.heap.size W W') => hl.below hb)
  have HI := Lib.hid I0
  have HT := Lib.hid hT
  have HO := Lib.hid hf
  obtain ⟨A0, cap0, e0, -, -⟩ := h.ifaces
  obtain ⟨A1, cap1, e1, -, -⟩ := h.bogons
  obtain ⟨A2, cap2, e2, -, -⟩ := h.tables
  obtain ⟨A3, cap3, e3, -, -⟩ := h.rules
  subst e0 e1 e2 e3
  clear hT hl h hc hf I0
  generalize hcs : confC (.slice A0 c.ifaces.length cap0) (.slice A1 c.bogons.length cap1) (.slice A2 ts.length cap2) (.slice A3 c.rules.length cap3) c = cs at *
  have d0 : cs[0]? = some (.slice A0 c.ifaces.length cap0) := by rw [← hcs]; rfl
  have d1 : cs[1]? = some (.slice A1 c.bogons.length cap1) := by rw [← hcs]; rfl
  have d2 : cs[2]? = some (.slice A2 ts.length cap2) := by rw [← hcs]; rfl
  have d3 : cs[3]? = some (.slice A3 c.rules.length cap3) := by rw [← hcs]; rfl
  have d4 : cs[4]? = some (.int .i64 c.flows) := by rw [← hcs]; rfl
  have d5 : cs[5]? = some (.int .i64 c.errors) := by rw [← hcs]; rfl
  have HD : Hid (_ ∧ _ ∧ _ ∧ _ ∧ _ ∧ _) := ⟨d0, d1, d2, d3, d4, d5⟩
  clear hcs d0 d1 d2 d3 d4 d5
  have HB2 := bnew2 W (.cells cs 27) (.cells #[.pointer none, .slice none 0 0] 120)
  have hr := heap_alloc2_old W (.cells cs 27) (.cells #[.pointer none, .slice none 0 0] 120)
  have hq := heap_alloc2_new W (.cells cs 27) (.cells #[.pointer none, .slice none 0 0] 120)
  have HP : Hid (PrI W cs [] ((W.alloc (.cells cs 27)).alloc (.cells #[.pointer none, .slice none 0 0] 120))) :=
    ⟨hr, .inl ⟨Nat.le_refl _, _, hq, World.ownsRow_nil _ _ _ _, by simp [Value.ownBlock]⟩, HB2, by simp⟩
  have q4 := (cell_of_row _ _ 4 _ _ _ HP.out.box).trans HD.out.2.2.2.2.1
  have q5 := (cell_of_row _ _ 5 _ _ _ HP.out.box).trans HD.out.2.2.2.2.2
  clear hr hq HB2
  go_enter Tryz.func34, Tryz.ntmps34
  go_wp2_with (first
    | (go_at_call 75; first
      | ((with_reducible refine (KF.out _ (HL.out _ HP.out.low)).mono ?_); rintro e w1 ⟨rfl, hb1⟩; have HP := Lib.hid (HP.out.below hb1); clear hb1; have q0 := (cell_of_row _ _ 0 _ _ _ HP.out.box).trans HD.out.1; have q1 := (cell_of_row _ _ 1 _ _ _ HP.out.box).trans HD.out.2.1; have q2 := (cell_of_row _ _ 2 _ _ _ HP.out.box).trans HD.out.2.2.1; have q3 := (cell_of_row _ _ 3 _ _ _ HP.out.box).trans HD.out.2.2.2.1; have q4 := (cell_of_row _ _ 4 _ _ _ HP.out.box).trans HD.out.2.2.2.2.1; have q5 := (cell_of_row _ _ 5 _ _ _ HP.out.box).trans HD.out.2.2.2.2.2)
      | ((with_reducible refine (KE.out _ (HL.out _ HP.out.low)).mono ?_); rintro e w1 ⟨rfl, hb1⟩; have HP := Lib.hid (HP.out.below hb1); clear hb1; have q0 := (cell_of_row _ _ 0 _ _ _ HP.out.box).trans HD.out.1; have q1 := (cell_of_row _ _ 1 _ _ _ HP.out.box).trans HD.out.2.1; have q2 := (cell_of_row _ _ 2 _ _ _ HP.out.box).trans HD.out.2.2.1; have q3 := (cell_of_row _ _ 3 _ _ _ HP.out.box).trans HD.out.2.2.2.1; have q4 := (cell_of_row _ _ 4 _ _ _ HP.out.box).trans HD.out.2.2.2.2.1; have q5 := (cell_of_row _ _ 5 _ _ _ HP.out.box).trans HD.out.2.2.2.2.2))
    | (go_at_call 72; first
      | (refine (HP.out.made [wFlows, Lib.itoa c.flows] (by simp) (by simp) (Nat.le_trans (unlines_len_le [spaced [wFlows, Lib.itoa c.flows]] _) HT.out) _).mono ?_; rintro e w1 ⟨rfl, hb1⟩; have HP := Lib.hid hb1.pr; clear hb1; have q0 := (cell_of_row _ _ 0 _ _ _ HP.out.box).trans HD.out.1; have q1 := (cell_of_row _ _ 1 _ _ _ HP.out.box).trans HD.out.2.1; have q2 := (cell_of_row _ _ 2 _ _ _ HP.out.box).trans HD.out.2.2.1; have q3 := (cell_of_row _ _ 3 _ _ _ HP.out.box).trans HD.out.2.2.2.1; have q4 := (cell_of_row _ _ 4 _ _ _ HP.out.box).trans HD.out.2.2.2.2.1; have q5 := (cell_of_row _ _ 5 _ _ _ HP.out.box).trans HD.out.2.2.2.2.2)
      | (refine (HP.out.made [wErrors, Lib.itoa c.errors] (by simp) (by simp) (Nat.le_trans (unlines_len_le [spaced [wFlows, Lib.itoa c.flows], spaced [wErrors, Lib.itoa c.errors]] _) HT.out) _).mono ?_; rintro e w1 ⟨rfl, hb1⟩; have HP := Lib.hid hb1.pr; clear hb1; have q0 := (cell_of_row _ _ 0 _ _ _ HP.out.box).trans HD.out.1; have q1 := (cell_of_row _ _ 1 _ _ _ HP.out.box).trans HD.out.2.1; have q2 := (cell_of_row _ _ 2 _ _ _ HP.out.box).trans HD.out.2.2.1; have q3 := (cell_of_row _ _ 3 _ _ _ HP.out.box).trans HD.out.2.2.2.1; have q4 := (cell_of_row _ _ 4 _ _ _ HP.out.box).trans HD.out.2.2.2.2.1; have q5 := (cell_of_row _ _ 5 _ _ _ HP.out.box).trans HD.out.2.2.2.2.2)))
  have HP := Lib.hid (show PrI W cs [spaced [wFlows, Lib.itoa c.flows], spaced [wErrors, Lib.itoa c.errors]] _ from HP.out)
  clear q1 q2 q3 q4 q5 KF KE K1
  generalize hmc : modeC.toArray = mc at KM
  have HMC : Hid (∀ (V : World) (r : Nat), r < 5 → (V.alloc (.cells mc 9)).cell? ⟨V.heap.size, r, none⟩ = some (.string ⟨(modeW (r : Int)).toArray⟩)) := fun V r hr => by
    rw [cell_of_row _ _ _ _ _ _ (heap_alloc_new V (.cells mc 9)), ← hmc]
    exact mode_at r hr
  clear hmc
  obtain ⟨A, hA⟩ : ∃ A, A = [spaced [wFlows, Lib.itoa c.flows], spaced [wErrors, Lib.itoa c.errors]] := ⟨_, rfl⟩
  rw [← hA] at HP
  have HT1 : Hid ((unlines (A ++ (c.ifaces.map (fun x => spaced (ifaceW x)) ++ (c.bogons.map (fun p => spaced [wBogon, printP p]) ++ (c.tables.map (fun t => spaced (tableW t)) ++ c.rules.map (fun r => spaced [printed r])))))).length ≤ 140737488355328) := by rw [hA, spaced_fun]; exact HT.out
  have HTE : Hid (textC c = unlines (A ++ (c.ifaces.map (fun x => spaced (ifaceW x)) ++ (c.bogons.map (fun p => spaced [wBogon, printP p]) ++ (c.tables.map (fun t => spaced (tableW t)) ++ c.rules.map (fun r => spaced [printed r])))))) := by rw [hA, spaced_fun]; rfl
  clear HT hA
  go_loopw [32] (fun s32 wr => ∃ k : Nat, k ≤ c.ifaces.length ∧ s32 = .int .i64 k ∧ PrI W cs (A ++ (c.ifaces.take k).map (fun x => spaced (ifaceW x))) wr) (fun s32 _ => c.ifaces.length - (intOf s32).toNat)
  case atStart => exact ⟨0, by omega, rfl, by simpa using HP.out⟩
  case round =>
    obtain ⟨k, hkl, rfl, hp⟩ := hrel
    have HP := Lib.hid hp
    have hp0 := hp
    clear hp
    by_cases hlt : k < c.ifaces.length
    · have hlt' : (k : Int) < c.ifaces.length := by omega
      have hk63 : (k : Int) + 1 ≤ 9223372036854775807 := by have := HO.out.ni; omega
      obtain ⟨x, hx⟩ : ∃ x, c.ifaces[k]? = some x := ⟨_, List.getElem?_eq_getElem hlt⟩
      have hxm := List.mem_of_getElem? hx
      obtain ⟨f1, f2, f3, f4⟩ := isI_facts x (List.all_eq_true.1 HI.out.ifaces x hxm)
      obtain ⟨b, o, c1, hv1, -, hbl, hr⟩ := HW.out.ifaces.at ifL_len k x hx
      injection hv1 with e1 e2 e3
      subst e1 e3
      have HX := Lib.hid (range_below hr HP.out.low hbl)
      have HN := Lib.hid (info5 x)
      have HNl := Lib.hid (show (Tryz.prog.info? 45).map (·.size) = some (ifL x).length by kernel_rfl)
      have HOne := Lib.hid (show (ifL x).toArray.all (·.oneCell') = true by kernel_rfl)
      have HSz := Lib.hid (show (ifL x).toArray.size = 5 from rfl)
      have KP := Lib.hid (fun W' hL => pprint_any x.addr (HO.out.ok.ifaces x hxm) W' hL)
      have KT := Lib.hid (fun W' hL => itoa_any x.mtu (by omega) (by omega) W' hL)
      obtain ⟨r, hrp⟩ : ∃ r : Nat, x.rpf = r := ⟨x.rpf.toNat, by omega⟩
      have hM := fun V => HMC.out V r (by omega)
      have r0 : (0 : Int) ≤ (r : Int) := by omega
      have r1 : (r : Int) < 5 := by omega
      have HF := Lib.hid (Nat.le_trans (unlines_len_le _ []) (by rw [List.append_nil, pre_take A c.ifaces (fun x => spaced (ifaceW x)) [] k x hx]; exact take_fits A _ c.ifaces (fun x => spaced (ifaceW x)) (k + 1) _ HT1.out) : (unlines ((A ++ (c.ifaces.take k).map (fun x => spaced (ifaceW x))) ++ [spaced (ifaceW x)])).length ≤ 140737488355328)
      have HG := Lib.hid (pre_take A c.ifaces (fun x => spaced (ifaceW x)) [] k x hx)
      have e0 : (ifL x).toArray[0]? = some (.string ⟨x.name.toArray⟩) := rfl
      have e1 : (ifL x).toArray[1]? = some (.int .u32 (x.addr.addr : Nat)) := rfl
      have e2 : (ifL x).toArray[2]? = some (.int .i64 x.addr.len) := rfl
      have e3 : (ifL x).toArray[3]? = some (.int .i64 x.mtu) := rfl
      have e4 : (ifL x).toArray[4]? = some (.int .i64 (r : Nat)) := by rw [← hrp]; rfl
      have HE : Hid (_ ∧ _ ∧ _ ∧ _ ∧ _) := ⟨e0, e1, e2, e3, e4⟩
      have HWl := Lib.hid (show ifaceW x = [wIface, x.name, printP x.addr, wMtu, Lib.itoa x.mtu, wRpf, modeW (r : Int)] by rw [← hrp]; rfl)
      clear hr hxm e0 e1 e2 e3 e4 hx hrp f1 f2 f3 f4
      generalize ifL x = fx at *
      go_wp2_with (first
        | ((with_reducible refine load_range b (o + k * 5) ?_ HX.out Tryz.underlying45 HNl.out ?_ ?_); rfl; rfl)
        | ((with_reducible refine store_new fx.toArray ?_ ?_ ?_ HN.out HOne.out ?_ ?_); rfl; rfl; exact HSz.out; rfl; intro V hV hbV hlV))
      have HR := Lib.hid hV
      have HP := Lib.hid ((HP.out.below hbV).below (Below.refl _ _).drew)
      have HR : Hid ((V.drew).heap[wr.heap.size]? = some (.cells fx.toArray 45 (0, 0))) := HR
      have hxb : wr.heap.size ≠ W.heap.size + 1 := by have := hp0.lt; omega
      have hxlt : wr.heap.size < V.heap.size := hlV
      clear hV hbV hlV hp0
      generalize wr.heap.size = xb at *
      refine wp_region_held_drew (S := (fun V' => V'.cell? ⟨xb, 0, none⟩ = some (.string ⟨x.name.toArray⟩) ∧ V'.cell? ⟨xb, 1, none⟩ = some (.int .u32 (x.addr.addr : Nat)) ∧ V'.cell? ⟨xb, 2, none⟩ = some (.int .i64 x.addr.len) ∧ V'.cell? ⟨xb, 3, none⟩ = some (.int .i64 x.mtu) ∧ V'.cell? ⟨xb, 4, none⟩ = some (.int .i64 (r : Nat)))) (by kernel_rfl) ?_ (fun hHeld => ?_)
      · (try dsimp only)
        first | exact five HE.out HR.out | exact five HE.out (row_new HR.out)
      refine take_at 0 rfl (by kernel_rfl) (by kernel_rfl) (by kernel_rfl) (fun _ _ _ h => h) (by rfl) (by assumption) (v := ?_) ?_ ?_
      rotate_left
      · (intro w hSw; (try dsimp only at hSw); go_simp <;> with_reducible rfl)
      (try simp only [Act.put, List.setIfInBounds_toArray, List.set_cons_zero, List.set_cons_succ])
      refine take_at 1 rfl (by kernel_rfl) (by kernel_rfl) (by kernel_rfl) (fun _ _ _ h => h) (by rfl) (by assumption) (v := ?_) ?_ ?_
      rotate_left
      · (intro w hSw; (try dsimp only at hSw); go_simp <;> with_reducible rfl)
      (try simp only [Act.put, List.setIfInBounds_toArray, List.set_cons_zero, List.set_cons_succ])
      refine take_at 2 rfl (by kernel_rfl) (by kernel_rfl) (by kernel_rfl) (fun _ _ _ h => h) (by rfl) (by assumption) (v := ?_) ?_ ?_
      rotate_left
      · (intro w hSw; (try dsimp only at hSw); go_simp <;> with_reducible rfl)
      (try simp only [Act.put, List.setIfInBounds_toArray, List.set_cons_zero, List.set_cons_succ])
      refine take_at 3 rfl (by kernel_rfl) (by kernel_rfl) (by kernel_rfl) (fun _ _ _ h => h) (by rfl) (by assumption) (v := ?_) ?_ ?_
      rotate_left
      · (intro w hSw; (try dsimp only at hSw); go_simp <;> with_reducible rfl)
      (try simp only [Act.put, List.setIfInBounds_toArray, List.set_cons_zero, List.set_cons_succ])
      refine take_at 4 rfl (by kernel_rfl) (by kernel_rfl) (by kernel_rfl) (fun _ _ _ h => h) (by rfl) (by assumption) (v := ?_) ?_ ?_
      rotate_left
      · (intro w hSw; (try dsimp only at hSw); go_simp <;> with_reducible rfl)
      (try simp only [Act.put, List.setIfInBounds_toArray, List.set_cons_zero, List.set_cons_succ])
      refine take_at 6 rfl (by kernel_rfl) (by kernel_rfl) (by kernel_rfl) (fun _ _ _ h => h) (by rfl) (by assumption) (v := ?_) ?_ ?_
      rotate_left
      · (intro w hSw; (try dsimp only at hSw); go_simp <;> with_reducible rfl)
      (try simp only [Act.put, List.setIfInBounds_toArray, List.set_cons_zero, List.set_cons_succ])
      refine take_at 7 rfl (by kernel_rfl) (by kernel_rfl) (by kernel_rfl) (fun _ _ _ h => h) (by rfl) (by assumption) (v := ?_) ?_ ?_
      rotate_left
      · (intro w hSw; (try dsimp only at hSw); go_simp <;> with_reducible rfl)
      (try simp only [Act.put, List.setIfInBounds_toArray, List.set_cons_zero, List.set_cons_succ])
      refine take_at 10 rfl (by kernel_rfl) (by kernel_rfl) (by kernel_rfl) (fun _ _ _ h => h) (by rfl) (by assumption) (v := ?_) ?_ ?_
      rotate_left
      · (intro w hSw; (try dsimp only at hSw); go_simp <;> with_reducible rfl)
      (try simp only [Act.put, List.setIfInBounds_toArray, List.set_cons_zero, List.set_cons_succ])
      refine take_at 11 rfl (by kernel_rfl) (by kernel_rfl) (by kernel_rfl) (fun _ _ _ h => h) (by rfl) (by assumption) (v := ?_) ?_ ?_
      rotate_left
      · (intro w hSw; (try dsimp only at hSw); go_simp <;> with_reducible rfl)
      (try simp only [Act.put, List.setIfInBounds_toArray, List.set_cons_zero, List.set_cons_succ])
      refine step_at 5 rfl (by kernel_rfl) (fun K hK => ?_)
      go_simp
      go_at_call 76; (with_reducible refine (KP.out _ (HL.out _ HP.out.low)).mono ?_); rintro e u1 ⟨rfl, hb1⟩; have HP := Lib.hid (HP.out.below hb1); have HR := row_step HR hb1; clear hb1
      refine hK.out _ _ ?_ (fun hHeld1 => ?_)
      · (try dsimp only)
        first | exact five HE.out HR.out | exact five HE.out (row_new HR.out)
      clear hK K hHeld
      have hHeld := hHeld1
      clear hHeld1
      refine step_at 8 rfl (by kernel_rfl) (fun K hK => ?_)
      go_simp
      go_at_call 75; (with_reducible refine (KT.out _ (HL.out _ HP.out.low)).mono ?_); rintro e u2 ⟨rfl, hb1⟩; have HP := Lib.hid (HP.out.below hb1); have HR := row_step HR hb1; clear hb1
      refine hK.out _ _ ?_ (fun hHeld1 => ?_)
      · (try dsimp only)
        first | exact five HE.out HR.out | exact five HE.out (row_new HR.out)
      clear hK K hHeld
      have hHeld := hHeld1
      clear hHeld1
      refine step_at 9 rfl (by kernel_rfl) (fun K hK => ?_)
      go_simp
      go_at_call 77; (with_reducible refine (KM.out _).mono ?_); rintro e u3 ⟨rfl, rfl⟩; have HP := Lib.hid (HP.out.below (bnew _ (.cells mc 9))); have HR := row_step HR (bnew _ (.cells mc 9))
      refine hK.out _ _ ?_ (fun hHeld1 => ?_)
      · (try dsimp only)
        first | exact five HE.out HR.out | exact five HE.out (row_new HR.out)
      clear hK K hHeld
      have hHeld := hHeld1
      clear hHeld1
      refine take_at 12 rfl (by kernel_rfl) (by kernel_rfl) (by kernel_rfl) (fun _ _ _ h => h) (by rfl) (by assumption) (v := ?_) ?_ ?_
      rotate_left
      · (intro w hSw; (try dsimp only at hSw); go_simp <;> with_reducible rfl)
      (try simp only [Act.put, List.setIfInBounds_toArray, List.set_cons_zero, List.set_cons_succ])
      refine step_at 13 rfl (by kernel_rfl) (fun K hK => ?_)
      go_simp
      refine hK.out _ _ ?_ (fun hHeld1 => ?_)
      · (try dsimp only)
        first | exact five HE.out HR.out | exact five HE.out (row_new HR.out)
      clear hK K hHeld
      have hHeld := hHeld1
      clear hHeld1
      refine step_at 14 rfl (by kernel_rfl) (fun K hK => ?_)
      go_simp
      refine hK.out _ _ ?_ (fun hHeld1 => ?_)
      · (try dsimp only)
        first | exact five HE.out HR.out | exact five HE.out (row_new HR.out)
      clear hK K hHeld
      have hHeld := hHeld1
      clear hHeld1
      refine step_at 15 rfl (by kernel_rfl) (fun K hK => ?_)
      go_simp
      go_at_call 72; refine (made_at HP.out HWl.out (by simp) (by simp) HF.out 9 (by simp)).mono ?_; rintro e u4 ⟨rfl, hb1⟩; have HP := Lib.hid hb1.pr; have HR := Lib.hid (hb1.kept _ _ _ _ (row_new HR.out) (by decide) hxb); clear hb1
      refine hK.out _ _ ?_ (fun hHeld1 => ?_)
      · (try dsimp only)
        first | exact five HE.out HR.out | exact five HE.out (row_new HR.out)
      clear hK K hHeld
      have hHeld := hHeld1
      clear hHeld1
      refine wpAnyH_done (by kernel_rfl) ?_ _
      all_goals
        go_wp2_with fail
        go_roundw
        case rel => exact ⟨k + 1, by omega, by go_num, by rw [← HG.out]; exact HP.out⟩
        case measure => simp only [intOf]; go_num
    · obtain rfl : k = c.ifaces.length := by omega
      have HP := Lib.hid (show PrI W cs (A ++ c.ifaces.map (fun x => spaced (ifaceW x))) wr by have h := HP.out; rwa [List.take_length] at h)
      clear hp0
      have q1 := (cell_of_row _ _ 1 _ _ _ HP.out.box).trans HD.out.2.1
      go_wp2_with fail
      generalize hA2 : A ++ c.ifaces.map (fun x => spaced (ifaceW x)) = A2 at HP
      have HT2 : Hid ((unlines (A2 ++ (c.bogons.map (fun p => spaced [wBogon, printP p]) ++ (c.tables.map (fun t => spaced (tableW t)) ++ c.rules.map (fun r => spaced [printed r]))))).length ≤ 140737488355328) := by rw [← hA2, List.append_assoc]; exact HT1.out
      have HTE : Hid (textC c = unlines (A2 ++ (c.bogons.map (fun p => spaced [wBogon, printP p]) ++ (c.tables.map (fun t => spaced (tableW t)) ++ c.rules.map (fun r => spaced [printed r]))))) := by rw [← hA2, List.append_assoc]; exact HTE.out
      clear HT1 hA2 KM HMC
      go_loopw [56] (fun s56 wr => ∃ k : Nat, k ≤ c.bogons.length ∧ s56 = .int .i64 k ∧ PrI W cs (A2 ++ (c.bogons.take k).map (fun p => spaced [wBogon, printP p])) wr) (fun s56 _ => c.bogons.length - (intOf s56).toNat)
      case atStart => exact ⟨0, by omega, rfl, by simpa using HP.out⟩
      case round =>
        obtain ⟨k, hkl, rfl, hp⟩ := hrel
        have HP := Lib.hid hp
        clear hp
        by_cases hlt : k < c.bogons.length
        · have hlt' : (k : Int) < c.bogons.length := by omega
          have hk63 : (k : Int) + 1 ≤ 9223372036854775807 := by have := HO.out.nb; omega
          obtain ⟨x, hx⟩ : ∃ x, c.bogons[k]? = some x := ⟨_, List.getElem?_eq_getElem hlt⟩
          have hxm := List.mem_of_getElem? hx
          obtain ⟨b, o, c1, hv1, -, hbl, hr⟩ := HW.out.bogons.at pfxL_len k x hx
          injection hv1 with e1 e2 e3
          subst e1 e3
          have HX := Lib.hid (range_below hr HP.out.low hbl)
          have HN := Lib.hid (show (Tryz.prog.info? 43).map (·.size) = some (pfxL x).toArray.size by kernel_rfl)
          have HNl := Lib.hid (show (Tryz.prog.info? 43).map (·.size) = some (pfxL x).length by kernel_rfl)
          have HOne := Lib.hid (show (pfxL x).toArray.all (·.oneCell') = true by kernel_rfl)
          have HSz := Lib.hid (show (pfxL x).toArray.size = 2 from rfl)
          have KP := Lib.hid (fun W' hL => pprint_any x (HO.out.ok.bogons x hxm) W' hL)
          have HF := Lib.hid (Nat.le_trans (unlines_len_le _ []) (by rw [List.append_nil, pre_take A2 c.bogons (fun p => spaced [wBogon, printP p]) [] k x hx]; exact take_fits A2 _ c.bogons (fun p => spaced [wBogon, printP p]) (k + 1) _ HT2.out) : (unlines ((A2 ++ (c.bogons.take k).map (fun p => spaced [wBogon, printP p])) ++ [spaced [wBogon, printP x]])).length ≤ 140737488355328)
          have HG := Lib.hid (pre_take A2 c.bogons (fun p => spaced [wBogon, printP p]) [] k x hx)
          have KP := Lib.hid (show ∀ W', LibOK W' → Calls Tryz.prog 76 #[.agg (pfxL x).toArray] W' _ from KP.out)
          clear hr hxm hx
          generalize pfxL x = fx at *
          go_wp2_with (first
            | ((with_reducible refine load_range b (o + k * 2) ?_ HX.out Tryz.underlying43 HNl.out ?_ ?_); rfl; rfl)
            | ((with_reducible refine store_new fx.toArray ?_ ?_ ?_ HN.out HOne.out ?_ ?_); rfl; rfl; exact HSz.out; rfl; intro V hV hbV hlV; have HP := Lib.hid (HP.out.below hbV); have HR := Lib.hid hV; clear hV hbV hlV)
            | ((with_reducible refine Mem.load_row wr.heap.size ?_ HR.out Tryz.underlying43 HN.out ?_ ?_); rfl; rfl)
            | (go_at_call 76; (with_reducible refine (KP.out _ (HL.out _ HP.out.low)).mono ?_); rintro e u1 ⟨rfl, hb1⟩; have HP := Lib.hid (HP.out.below hb1); clear hb1)
            | (go_at_call 72; refine (made_at HP.out (us := [wBogon, printP x]) rfl (by simp) (by simp) HF.out 9 rfl).mono ?_; rintro e u4 ⟨rfl, hb1⟩; have HP := Lib.hid hb1.pr; clear hb1))
          go_roundw
          case rel => exact ⟨k + 1, by omega, by go_num, by rw [← HG.out]; exact HP.out⟩
          case measure => simp only [intOf]; go_num
        · obtain rfl : k = c.bogons.length := by omega
          have HP := Lib.hid (show PrI W cs (A2 ++ c.bogons.map (fun p => spaced [wBogon, printP p])) wr by have h := HP.out; rwa [List.take_length] at h)
          have q2 := (cell_of_row _ _ 2 _ _ _ HP.out.box).trans HD.out.2.2.1
          go_wp2_with fail
          generalize hA3 : A2 ++ c.bogons.map (fun p => spaced [wBogon, printP p]) = A3 at HP
          have HT3 : Hid ((unlines (A3 ++ (c.tables.map (fun t => spaced (tableW t)) ++ c.rules.map (fun r => spaced [printed r])))).length ≤ 140737488355328) := by rw [← hA3, List.append_assoc]; exact HT2.out
          have HTE : Hid (textC c = unlines (A3 ++ (c.tables.map (fun t => spaced (tableW t)) ++ c.rules.map (fun r => spaced [printed r])))) := by rw [← hA3, List.append_assoc]; exact HTE.out
          clear HT2 hA3
          go_loopw [69] (fun s69 wr => ∃ k : Nat, k ≤ ts.length ∧ s69 = .int .i64 k ∧ PrI W cs (A3 ++ (c.tables.take k).map (fun t => spaced (tableW t))) wr) (fun s69 _ => ts.length - (intOf s69).toNat)
          case atStart => exact ⟨0, by omega, rfl, by simpa using HP.out⟩
          case round =>
            obtain ⟨k, hkl, rfl, hp⟩ := hrel
            have HP := Lib.hid hp
            clear hp
            by_cases hlt : k < ts.length
            · have hlt' : (k : Int) < ts.length := by omega
              have hk63 : (k : Int) + 1 ≤ 9223372036854775807 := by have := HO.out.nt; have := HW.out.tlen; omega
              obtain ⟨t, hx⟩ : ∃ t, ts[k]? = some t := ⟨_, List.getElem?_eq_getElem hlt⟩
              have hxm := List.mem_of_getElem? hx
              have hxt : c.tables[k]? = some t.1 := by rw [← HW.out.tab, List.getElem?_map, hx]; rfl
              have htm := List.mem_of_getElem? hxt
              obtain ⟨b, o, c1, hv1, -, hbl, hr⟩ := HW.out.tables.at nmL_len k t hx
              injection hv1 with e1 e2 e3
              subst e1 e3
              have HX := Lib.hid (range_below hr HP.out.low hbl)
              have HTin := Lib.hid (HW.out.tin t hxm)
              have HPo := Lib.hid (HO.out.ok.tables t.1 htm)
              have HF := Lib.hid (Nat.le_trans (unlines_len_le _ []) (by rw [List.append_nil, pre_take A3 c.tables (fun t => spaced (tableW t)) [] k t.1 hxt]; exact take_fits A3 _ c.tables (fun t => spaced (tableW t)) (k + 1) _ HT3.out) : (unlines ((A3 ++ (c.tables.take k).map (fun t => spaced (tableW t))) ++ [spaced (tableW t.1)])).length ≤ 140737488355328)
              have HG := Lib.hid (pre_take A3 c.tables (fun t => spaced (tableW t)) [] k t.1 hxt)
              have hln : t.1.l.length ≤ 256 := by
                have h := List.all_eq_true.1 HI.out.tables t.1 htm
                simp only [prefsOK, Bool.and_eq_true, decide_eq_true_eq] at h
                exact h.2.1
              clear hr hxm hx hxt htm
              obtain ⟨⟨nm, l⟩, u⟩ := t
              dsimp only at HTin HPo HF HG hln
              obtain ⟨AL, capL, eL, -, -⟩ := HTin.out
              subst eL
              have HN := Lib.hid (show (Tryz.prog.info? 66).map (·.size) = some (#[Value.string ⟨nm.toArray⟩, .slice AL l.length capL] : Array Value).size by kernel_rfl)
              have HNl := Lib.hid (show (Tryz.prog.info? 66).map (·.size) = some [Value.string ⟨nm.toArray⟩, .slice AL l.length capL].length by kernel_rfl)
              have HX := Lib.hid (show wr.rangeAt b (o + k * 2) [Value.string ⟨nm.toArray⟩, .slice AL l.length capL] from HX.out)
              go_upto_region 18 with (first
                | ((with_reducible refine load_range b (o + k * 2) ?_ HX.out Tryz.underlying66 HNl.out ?_ ?_); rfl; rfl)
                | ((with_reducible refine store_new #[Value.string ⟨nm.toArray⟩, .slice AL l.length capL] ?_ ?_ ?_ HN.out ?_ ?_ ?_); rfl; rfl; rfl; kernel_rfl; rfl; intro V hV hbV hlV; have HP := Lib.hid (HP.out.below hbV); have HR := Lib.hid hV; clear hV hbV hlV))
              have g0 := cell_of_row _ _ 0 _ _ _ HR.out
              have g1 := cell_of_row _ _ 1 _ _ _ HR.out
              go_upto_region 19 with fail
              have HZ : Hid ((V.alloc (.cells #[Value.string ⟨#[116, 97, 98, 108, 101]⟩, .string ⟨nm.toArray⟩] 9)).ownsRow V.heap.size 9 1 (.slice (some ⟨V.heap.size, 0, none⟩) 2 2) (wordsT nm l 0).length ((wordsT nm l 0).map fun x => .string ⟨x.toArray⟩)) :=
                World.ownsRow_lit (e := 9) (size := 1) V #[Value.string ⟨#[116, 97, 98, 108, 101]⟩, .string ⟨nm.toArray⟩] 2 (Nat.le_refl V.heap.size) (by simp [maxLen]) rfl
              have HR := row_step HR (bnew V (.cells #[Value.string ⟨#[116, 97, 98, 108, 101]⟩, .string ⟨nm.toArray⟩] 9))
              have HBV := Lib.hid (bnew V (.cells #[Value.string ⟨#[116, 97, 98, 108, 101]⟩, .string ⟨nm.toArray⟩] 9))
              clear g0 g1
              generalize hV1 : V.alloc (.cells #[Value.string ⟨#[116, 97, 98, 108, 101]⟩, .string ⟨nm.toArray⟩] 9) = V1 at *
              have HOw := HZ
              clear HZ hV1
              have g1 := cell_of_row _ _ 1 _ _ _ HR.out
              go_wp2_with fail
              go_loopw [11, 79] (fun s11 s79 wq => ∃ j : Nat, j ≤ l.length ∧ s79 = .int .i64 j ∧ wq.ownsRow V.heap.size 9 1 s11 (wordsT nm l j).length ((wordsT nm l j).map fun x => .string ⟨x.toArray⟩) ∧ Below V.heap.size V wq) (fun s11 s79 _ => l.length - (intOf s79).toNat)
              case atStart => exact ⟨0, by omega, rfl, HOw.out, HBV.out⟩
              case round =>
                obtain ⟨j, hjl, rfl, ho, hb⟩ := hrel
                have HOw := Lib.hid ho
                have HBV := Lib.hid hb
                have HPr := Lib.hid (HP.out.below hb)
                clear ho hb g1
                by_cases hlj : j < l.length
                · have hlj' : (j : Int) < l.length := by omega
                  have hj63 : (j : Int) + 1 ≤ 9223372036854775807 := by omega
                  obtain ⟨p, hp⟩ : ∃ p, l[j]? = some p := ⟨_, List.getElem?_eq_getElem hlj⟩
                  obtain ⟨b', o', c2, hv2, -, hbl, hr⟩ := HTin.out.at pfxL_len j p hp
                  injection hv2 with e1 e2 e3
                  subst e1 e3
                  have HXp := Lib.hid (range_below hr HPr.out.low hbl)
                  have HN2 := Lib.hid (show (Tryz.prog.info? 43).map (·.size) = some (pfxL p).toArray.size by kernel_rfl)
                  have HNl2 := Lib.hid (show (Tryz.prog.info? 43).map (·.size) = some (pfxL p).length by kernel_rfl)
                  have HOne2 := Lib.hid (show (pfxL p).toArray.all (·.oneCell') = true by kernel_rfl)
                  have HSz2 := Lib.hid (show (pfxL p).toArray.size = 2 from rfl)
                  have KP2 := Lib.hid (fun W' hL => pprint_any p (HPo.out p (List.mem_of_getElem? hp)) W' hL)
                  have KP2 := Lib.hid (show ∀ W', LibOK W' → Calls Tryz.prog 76 #[.agg (pfxL p).toArray] W' _ from KP2.out)
                  have HWn := Lib.hid (words_next nm l j p hp)
                  have hwl : (wordsT nm l j).length ≤ 1048580 := by simp [wordsT]; omega
                  clear hr hp
                  generalize pfxL p = fx at *
                  go_wp2_with (first
                    | ((with_reducible refine load_range b' (o' + j * 2) ?_ HXp.out Tryz.underlying43 HNl2.out ?_ ?_); rfl; rfl)
                    | ((with_reducible refine store_new fx.toArray ?_ ?_ ?_ HN2.out HOne2.out ?_ ?_); rfl; rfl; exact HSz2.out; rfl; intro V2 hV hbV hlV; have HPr := Lib.hid (HPr.out.below hbV); have HR2 := Lib.hid hV; have HBV := Lib.hid (bstep HBV.out hbV HBV.out.size); have HOw := Lib.hid (own_below HOw.out hbV); clear hV hbV hlV)
                    | ((with_reducible refine Mem.load_row wr.heap.size ?_ HR2.out Tryz.underlying43 HN2.out ?_ ?_); rfl; rfl)
                    | (go_at_call 76; (with_reducible refine (KP2.out _ (HL.out _ HPr.out.low)).mono ?_); rintro e u1 ⟨rfl, hb1⟩; have HBV := Lib.hid (bstep HBV.out hb1 HBV.out.size); have HOw := Lib.hid (own_below HOw.out hb1); clear hb1)
                    | (at_builtin; refine wpList_append_one rfl _ _ 55 rfl V.heap.size 9 (.string ByteArray.empty) 16 Tryz.underlying55 info9 rfl _ _ _ rfl HOw.out (.string ⟨(printP p).toArray⟩) rfl rfl (by simp only [maxLen]; omega) (by omega) HBV.out.size ?_; intro v' w' ho hb hz hn; have HO2 := Lib.hid ho; have HB2 := Lib.hid (HBV.out.trans hb); clear ho hb hz hn))
                  go_roundw
                  case rel => exact ⟨j + 1, by omega, by go_num, by rw [← HWn.out.1, ← HWn.out.2]; exact HO2.out, HB2.out⟩
                  case measure => simp only [intOf]; go_num
                · obtain rfl : j = l.length := by omega
                  have HSw := Lib.hid (own_sl HOw.out)
                  rw [words_all] at HSw
                  go_wp2_with (go_at_call 72; refine (HPr.out.line (Below.refl _ _) (tableW ⟨nm, l⟩) (by simp [tableW]) _ HSw.out (by simp [tableW]; omega) HF.out).mono ?_; rintro e u4 ⟨rfl, hb1⟩; have HP := Lib.hid hb1.pr; clear hb1)
                  go_roundw
                  case rel => exact ⟨k + 1, by omega, by go_num, by rw [← HG.out]; exact HP.out⟩
                  case measure => simp only [intOf]; go_num
            · obtain rfl : k = ts.length := by omega
              have HP := Lib.hid (show PrI W cs (A3 ++ c.tables.map (fun t => spaced (tableW t))) wr by have h := HP.out; rwa [HW.out.tlen, List.take_length] at h)
              have q3 := (cell_of_row _ _ 3 _ _ _ HP.out.box).trans HD.out.2.2.2.1
              go_wp2_with fail
              generalize hA4 : A3 ++ c.tables.map (fun t => spaced (tableW t)) = A4 at HP
              have HT4 : Hid ((unlines (A4 ++ (c.rules.map (fun r => spaced [printed r]) ++ []))).length ≤ 140737488355328) := by rw [← hA4, List.append_assoc, List.append_nil]; exact HT3.out
              have HTE : Hid (textC c = unlines (A4 ++ c.rules.map (fun r => spaced [printed r]))) := by rw [← hA4, List.append_assoc]; exact HTE.out
              clear HT3 hA4
              go_loopw [96] (fun s96 wr => ∃ k : Nat, k ≤ c.rules.length ∧ s96 = .int .i64 k ∧ PrI W cs (A4 ++ (c.rules.take k).map (fun r => spaced [printed r])) wr) (fun s96 _ => c.rules.length - (intOf s96).toNat)
              case atStart => exact ⟨0, by omega, rfl, by simpa using HP.out⟩
              case round =>
                obtain ⟨k, hkl, rfl, hp⟩ := hrel
                have HP := Lib.hid hp
                clear hp
                by_cases hlt : k < c.rules.length
                · have hlt' : (k : Int) < c.rules.length := by omega
                  have hk63 : (k : Int) + 1 ≤ 9223372036854775807 := by have := HO.out.nr; omega
                  obtain ⟨x, hx⟩ : ∃ x, c.rules[k]? = some x := ⟨_, List.getElem?_eq_getElem hlt⟩
                  have hxm := List.mem_of_getElem? hx
                  obtain ⟨b, o, c1, hv1, -, hbl, hr⟩ := HW.out.rules.at rlL_len k x hx
                  injection hv1 with e1 e2 e3
                  subst e1 e3
                  have HX := Lib.hid (range_below hr HP.out.low hbl)
                  have HN := Lib.hid (show (Tryz.prog.info? 75).map (·.size) = some (rlL x).toArray.size by unfold rlL; rw [Array.toArray_toList]; exact info32 x)
                  have HNl := Lib.hid (show (Tryz.prog.info? 75).map (·.size) = some (rlL x).length from HN.out)
                  have HOne := Lib.hid (show (rlL x).toArray.all (·.oneCell') = true by unfold rlL; rw [Array.toArray_toList]; exact rule_one x)
                  have HSz := Lib.hid (show (rlL x).toArray.size = 28 from rfl)
                  have KP := Lib.hid (fun W' hL => KPR.out x (HO.out.ok.rules x hxm) W' hL)
                  have HF := Lib.hid (Nat.le_trans (unlines_len_le _ []) (by rw [List.append_nil, pre_take A4 c.rules (fun r => spaced [printed r]) [] k x hx]; exact take_fits A4 _ c.rules (fun r => spaced [printed r]) (k + 1) _ HT4.out) : (unlines ((A4 ++ (c.rules.take k).map (fun r => spaced [printed r])) ++ [spaced [printed x]])).length ≤ 140737488355328)
                  have HG := Lib.hid (pre_take A4 c.rules (fun r => spaced [printed r]) [] k x hx)
                  have KP := Lib.hid (show ∀ W', LibOK W' → Calls Tryz.prog 78 #[.agg (rlL x).toArray] W' _ from by unfold rlL; rw [Array.toArray_toList]; exact KP.out)
                  clear hr hxm hx
                  generalize rlL x = fx at *
                  go_wp2_with (first
                    | ((with_reducible refine load_range b (o + k * 28) ?_ HX.out Tryz.underlying75 HNl.out ?_ ?_); rfl; rfl)
                    | ((with_reducible refine store_new fx.toArray ?_ ?_ ?_ HN.out HOne.out ?_ ?_); rfl; rfl; exact HSz.out; rfl; intro V hV hbV hlV; have HP := Lib.hid (HP.out.below hbV); have HR := Lib.hid hV; clear hV hbV hlV)
                    | ((with_reducible refine Mem.load_row wr.heap.size ?_ HR.out Tryz.underlying75 HN.out ?_ ?_); rfl; rfl)
                    | (go_at_call 78; (with_reducible refine (KP.out _ (HL.out _ HP.out.low)).mono ?_); rintro e u1 ⟨rfl, hb1⟩; have HP := Lib.hid (HP.out.below hb1); clear hb1)
                    | (go_at_call 72; refine (made_at HP.out (us := [printed x]) rfl (by simp) (by simp) HF.out 9 rfl).mono ?_; rintro e u4 ⟨rfl, hb1⟩; have HP := Lib.hid hb1.pr; clear hb1))
                  go_roundw
                  case rel => exact ⟨k + 1, by omega, by go_num, by rw [← HG.out]; exact HP.out⟩
                  case measure => simp only [intOf]; go_num
                · obtain rfl : k = c.rules.length := by omega
                  have HP := Lib.hid (show PrI W cs (A4 ++ c.rules.map (fun r => spaced [printed r])) wr by have h := HP.out; rwa [List.take_length] at h)
                  go_wp2_with (go_at_call 79; refine (Tryz.Builder_String_any _ _ _ _ HP.out.bld (by have := HP.out.lt; omega)).mono ?_; rintro e u5 ⟨rfl, hb1⟩; have HZ := Lib.hid (HP.out.low.trans (hb1.mono (Nat.le_succ _))); clear hb1)
                  go_ret
                  exact ⟨by rw [HTE.out]; rfl, HZ.out⟩
end Go.Proofs.YtnmbbnhgoedjgaaGreatDoor.Cg3

