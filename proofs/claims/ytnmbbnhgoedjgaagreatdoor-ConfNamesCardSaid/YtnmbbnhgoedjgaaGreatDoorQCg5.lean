/- A configuration's text is no longer than that; its lines, one after another. Plain Lean. castellanref20.Mode, castellanref20.text. -/
import Derived.Test.YtnmbbnhgoedjgaaGreatDoorQCg0
import Derived.Test.YtnmbbnhgoedjgaaGreatDoorQRuX
import Derived.Test.YtnmbbnhgoedjgaaGreatDoorQCf1
import Derived.Test.YtnmbbnhgoedjgaaGreatDoorQCgM
import Derived.Test.YtnmbbnhgoedjgaaGreatDoorQCgR
import Derived.Test.YtnmbbnhgoedjgaaGreatDoorQStA
import Derived.Deep.DeepCutAuto
namespace Go.Proofs.YtnmbbnhgoedjgaaGreatDoor.CgP
open Go Go.RowKit Go.Proofs.YtnmbbnhgoedjgaaGreatDoor.Ad0 Go.Proofs.YtnmbbnhgoedjgaaGreatDoor.St4 Go.Proofs.YtnmbbnhgoedjgaaGreatDoor.Ru0 Go.Proofs.YtnmbbnhgoedjgaaGreatDoor.Ru1 Go.Proofs.YtnmbbnhgoedjgaaGreatDoor.Ru3 Go.Proofs.YtnmbbnhgoedjgaaGreatDoor.Ru4 Go.Proofs.YtnmbbnhgoedjgaaGreatDoor.RuH Go.Proofs.YtnmbbnhgoedjgaaGreatDoor.RuT Go.Proofs.YtnmbbnhgoedjgaaGreatDoor.RuY Go.Proofs.YtnmbbnhgoedjgaaGreatDoor.Cf0 Go.Proofs.YtnmbbnhgoedjgaaGreatDoor.Cf4 Go.Proofs.YtnmbbnhgoedjgaaGreatDoor.Cg0 Go.Proofs.YtnmbbnhgoedjgaaGreatDoor.RuX
set_option linter.unusedVariables false
set_option linter.unusedSimpArgs false
theorem unlines_one (L : List Wd) (x : Wd) : unlines L ++ (x ++ [10]) = unlines (L ++ [x]) := by simp [unlines]
theorem pre_take {α : Type} (A : List Wd) (l : List α) (F : α → Wd) (k : Nat) (x : α) (hx : l[k]? = some x) : (A ++ (l.take k).map F) ++ [F x] = A ++ (l.take (k + 1)).map F := by
  rw [List.take_add_one, hx]
  simp
theorem unlines_len_le (A B : List Wd) : (unlines A).length ≤ (unlines (A ++ B)).length := by simp [unlines]
theorem take_fits {α : Type} (A B : List Wd) (l : List α) (F : α → Wd) (k m : Nat) (h : (unlines (A ++ (l.map F ++ B))).length ≤ m) : (unlines (A ++ (l.take k).map F)).length ≤ m := by
  refine Nat.le_trans ?_ h
  have e : A ++ (l.map F ++ B) = (A ++ (l.take k).map F) ++ ((l.drop k).map F ++ B) := by
    rw [List.append_assoc, ← List.append_assoc (List.map F _), ← List.map_append, List.take_append_drop]
  rw [e]
  exact unlines_len_le _ _
def wordsT (nm : Wd) (l : List Pfx) (j : Nat) : List Wd := wTable :: nm :: (l.take j).map printP
theorem words_all (nm : Wd) (l : List Pfx) : wordsT nm l l.length = tableW ⟨nm, l⟩ := by
  unfold wordsT tableW
  rw [List.take_length]
theorem unlines_len (m : Nat) : ∀ (L : List Wd), (∀ x ∈ L, x.length ≤ m) → (unlines L).length ≤ L.length * (m + 1)
  | [], _ => by simp [unlines]
  | x :: t, h => by
    have h1 := h x (by simp)
    have h2 := unlines_len m t (fun y hy => h y (List.mem_cons_of_mem _ hy))
    have e : unlines (x :: t) = x ++ [10] ++ unlines t := by simp [unlines]
    rw [e]
    simp only [List.length_append, List.length_cons, List.length_nil, Nat.add_mul] at *
    omega
theorem flat_len (m : Nat) : ∀ (L : List Wd), (∀ x ∈ L, x.length ≤ m) → (L.flatMap fun w => (32 : UInt8) :: w).length ≤ L.length * (m + 1)
  | [], _ => by simp
  | x :: t, h => by
    have h1 := h x (by simp)
    have h2 := flat_len m t (fun y hy => h y (List.mem_cons_of_mem _ hy))
    rw [List.flatMap_cons, List.length_append, List.length_cons, List.length_cons, Nat.add_mul]
    omega
theorem spaced_len (m : Nat) (L : List Wd) (h : ∀ x ∈ L, x.length ≤ m) : (spaced L).length ≤ L.length * (m + 1) := by
  cases L with
  | nil => simp [spaced]
  | cons x t =>
    have h1 := h x (by simp)
    have h2 := flat_len m t (fun y hy => h y (List.mem_cons_of_mem _ hy))
    show (x ++ _).length ≤ _
    rw [List.length_append, List.length_cons, Nat.add_mul]
    omega
theorem name_len (l : Wd) (h : nameL l = true) : l.length ≤ 8 := by
  unfold nameL at h
  simp only [Bool.and_eq_true, decide_eq_true_eq] at h
  exact h.1.2
theorem itoa_len (n : Int) (h0 : 0 ≤ n) (h1 : n < 100000) : (Lib.itoa n).length ≤ 5 := by
  rw [itoa_of n h0]
  exact len_dec 4 _ (by omega)
theorem printP_len (p : Pfx) (h0 : 0 ≤ p.len) (h1 : p.len ≤ 32) : (printP p).length ≤ 21 := by
  unfold printP
  split
  · have a := print_len p.addr
    have b := itoa_len p.len h0 (by omega)
    simp only [List.length_append, List.length_cons]
    omega
  · simp
theorem mode_len : ∀ k : Fin 5, (modeW (k.val : Nat)).length ≤ 8 := by decide +kernel
theorem mode_len' (n : Int) (h0 : 0 ≤ n) (h1 : n ≤ 4) : (modeW n).length ≤ 8 := by
  have := mode_len ⟨n.toNat, by omega⟩
  have e : ((n.toNat : Nat) : Int) = n := by omega
  simp only [e] at this
  exact this
theorem iface_len (x : IfaceM) (h : isI x = true) : (spaced (ifaceW x)).length ≤ 6000 := by
  obtain ⟨f1, f2, f3, f4⟩ := isI_facts x h
  have h := spaced_len 21 (ifaceW x) (fun w hw => by
    have a1 := name_len _ f1
    have a2 := printP_len x.addr (by omega) f2.2
    have a3 := itoa_len x.mtu (by omega) (by omega)
    have a4 := mode_len' x.rpf f4.1 f4.2
    simp only [ifaceW, List.mem_cons, List.not_mem_nil, or_false] at hw
    rcases hw with rfl | rfl | rfl | rfl | rfl | rfl | rfl
    · decide
    · omega
    · omega
    · decide
    · omega
    · decide
    · omega)
  have : (ifaceW x).length = 7 := rfl
  omega
theorem bogon_len (p : Pfx) (h : isF p = true) : (spaced [wBogon, printP p]).length ≤ 6000 := by
  have hl := isF_len p h
  have h := spaced_len 21 [wBogon, printP p] (fun w hw => by
    have a2 := printP_len p hl.1 hl.2
    simp only [List.mem_cons, List.not_mem_nil, or_false] at hw
    rcases hw with rfl | rfl
    · decide
    · omega)
  simp only [List.length_cons, List.length_nil] at h
  omega
theorem table_len (t : NamedM) (h : (nameL t.name && prefsOK t.l) = true) : (spaced (tableW t)).length ≤ 6000 := by
  simp only [prefsOK, Bool.and_eq_true, decide_eq_true_eq] at h
  have hq := spaced_len 21 (tableW t) (fun w hw => by
    simp only [tableW, List.mem_cons, List.mem_map] at hw
    rcases hw with rfl | rfl | ⟨p, hp, rfl⟩
    · decide
    · have := name_len _ h.1; omega
    · have hl := isF_len p (List.all_eq_true.1 h.2.2 p hp)
      exact printP_len p hl.1 hl.2)
  have e : (tableW t).length = t.l.length + 2 := by simp [tableW]
  rw [e] at hq
  have := h.2.1
  omega
theorem rule_len (r : RuleM) (h : ruleR r = true) (hf : Fits r) : (printed r).length ≤ 6000 := by
  unfold printed
  rw [if_pos h]
  have := printed_len r hf h
  omega
theorem text_bound (c : ConfM) (h : IsC0 c) (hf : FitC c) : (unlines (linesT c)).length ≤ 8000000000 := by
  have hall : ∀ x ∈ linesT c, x.length ≤ 6000 := by
    intro x hx
    simp only [linesT, List.mem_cons, List.mem_append, List.mem_map] at hx
    rcases hx with rfl | rfl | ⟨y, hy, rfl⟩ | ⟨y, hy, rfl⟩ | ⟨y, hy, rfl⟩ | ⟨y, hy, rfl⟩
    · have a := itoa_len c.flows (by have := h.f0; omega) (by have := h.f1; omega)
      have := spaced_len 5 [wFlows, Lib.itoa c.flows] (fun w hw => by
        simp only [List.mem_cons, List.not_mem_nil, or_false] at hw
        rcases hw with rfl | rfl
        · decide
        · exact a)
      simp only [List.length_cons, List.length_nil] at this
      omega
    · have a := itoa_len c.errors h.e0 (by have := h.e1; omega)
      have := spaced_len 6 [wErrors, Lib.itoa c.errors] (fun w hw => by
        simp only [List.mem_cons, List.not_mem_nil, or_false] at hw
        rcases hw with rfl | rfl
        · decide
        · omega)
      simp only [List.length_cons, List.length_nil] at this
      omega
    · exact iface_len y (List.all_eq_true.1 h.ifaces y hy)
    · have hb := h.bogons
      simp only [prefsOK, Bool.and_eq_true] at hb
      exact bogon_len y (List.all_eq_true.1 hb.2 y hy)
    · exact table_len y (List.all_eq_true.1 h.tables y hy)
    · exact rule_len y (List.all_eq_true.1 h.rules y hy) (hf.ok.rules y hy)
  have hu := unlines_len 6000 _ hall
  have hl : (linesT c).length = 2 + (c.ifaces.length + (c.bogons.length + (c.tables.length + c.rules.length))) := by
    simp only [linesT, List.length_cons, List.length_append, List.length_map]
    omega
  have hb := h.bogons
  simp only [prefsOK, Bool.and_eq_true, decide_eq_true_eq] at hb
  have h1 := h.i1
  have h2 := hf.sm (isC0_of c h)
  have h3 := h.nr
  have : (linesT c).length ≤ 1048906 := by omega
  have := Nat.mul_le_mul_right 6001 this
  omega
end Go.Proofs.YtnmbbnhgoedjgaaGreatDoor.CgP

namespace Go.Proofs.YtnmbbnhgoedjgaaGreatDoor.Cg5
open Go Go.RowKit Go.Proofs.YtnmbbnhgoedjgaaGreatDoor.Ad0 Go.Proofs.YtnmbbnhgoedjgaaGreatDoor.Ad1 Go.Proofs.YtnmbbnhgoedjgaaGreatDoor.St2 Go.Proofs.YtnmbbnhgoedjgaaGreatDoor.St4 Go.Proofs.YtnmbbnhgoedjgaaGreatDoor.St6 Go.Proofs.YtnmbbnhgoedjgaaGreatDoor.Ru0 Go.Proofs.YtnmbbnhgoedjgaaGreatDoor.Ru1 Go.Proofs.YtnmbbnhgoedjgaaGreatDoor.Ru3 Go.Proofs.YtnmbbnhgoedjgaaGreatDoor.Ru4 Go.Proofs.YtnmbbnhgoedjgaaGreatDoor.Ru5 Go.Proofs.YtnmbbnhgoedjgaaGreatDoor.Ru6 Go.Proofs.YtnmbbnhgoedjgaaGreatDoor.StA Go.Proofs.YtnmbbnhgoedjgaaGreatDoor.RuB Go.Proofs.YtnmbbnhgoedjgaaGreatDoor.RuC Go.Proofs.YtnmbbnhgoedjgaaGreatDoor.RuT Go.Proofs.YtnmbbnhgoedjgaaGreatDoor.RuY Go.Proofs.YtnmbbnhgoedjgaaGreatDoor.Cf0 Go.Proofs.YtnmbbnhgoedjgaaGreatDoor.Cf4 Go.Proofs.YtnmbbnhgoedjgaaGreatDoor.Cf6 Go.Proofs.YtnmbbnhgoedjgaaGreatDoor.Cg0 Go.Proofs.YtnmbbnhgoedjgaaGreatDoor.Cg1 Go.Proofs.YtnmbbnhgoedjgaaGreatDoor.CgM Go.Proofs.YtnmbbnhgoedjgaaGreatDoor.CgQ Go.Proofs.YtnmbbnhgoedjgaaGreatDoor.RuX Go.Proofs.YtnmbbnhgoedjgaaGreatDoor.CgP
set_option linter.unusedVariables false
set_option linter.unusedSimpArgs false
theorem rmode_any (r : Nat) (hr : r < 5) (W : World) : Calls Tryz.prog 84 #[.int .i64 (r : Nat)] W fun e w' => e = .returned (.string ⟨(modeW (r : Int)).toArray⟩) ∧ Below W.heap.size W w' := by
  have HB := Lib.hid (bnew W (.cells #[.string ⟨#[110, 111, 110, 101]⟩, .string ⟨#[115, 116, 114, 105, 99, 116]⟩, .string ⟨#[108, 111, 111, 115, 101]⟩, .string ⟨#[108, 111, 111, 115, 101, 114]⟩, .string ⟨#[102, 101, 97, 115, 105, 98, 108, 101]⟩] 9))
  have h1 : max (r : Int) 0 = r := by omega
  have h2 : min (r : Int) 4 = r := by omega
  have h3 : (0 : Int) ≤ r := by omega
  have h4 : (r : Int) < 5 := by omega
  have hq : (#[Value.string ⟨#[110, 111, 110, 101]⟩, .string ⟨#[115, 116, 114, 105, 99, 116]⟩, .string ⟨#[108, 111, 111, 115, 101]⟩, .string ⟨#[108, 111, 111, 115, 101, 114]⟩, .string ⟨#[102, 101, 97, 115, 105, 98, 108, 101]⟩] : Array Value)[r]? = some (.string ⟨(modeW (r : Int)).toArray⟩) := by
    match r, hr with
    | 0, _ => rfl
    | 1, _ => rfl
    | 2, _ => rfl
    | 3, _ => rfl
    | 4, _ => rfl
  have hM : (W.alloc (.cells #[Value.string ⟨#[110, 111, 110, 101]⟩, .string ⟨#[115, 116, 114, 105, 99, 116]⟩, .string ⟨#[108, 111, 111, 115, 101]⟩, .string ⟨#[108, 111, 111, 115, 101, 114]⟩, .string ⟨#[102, 101, 97, 115, 105, 98, 108, 101]⟩] 9)).cell? ⟨W.heap.size, r, none⟩ = some (.string ⟨(modeW (r : Int)).toArray⟩) := (cell_of_row _ _ _ _ _ _ (heap_alloc_new W _)).trans hq
  generalize modeW (r : Int) = mw at *
  go_enter Tryz.func84, Tryz.ntmps84
  go_wp2_with fail
  go_ret
  exact ⟨rfl, HB.out⟩
/-- What the walk keeps: the argument's box. -/
structure PrT (W : World) (cs : Array Value) (w : World) : Prop where
  box : w.heap[W.heap.size]? = some (.cells cs 27 (0, 0))
  low : Below W.heap.size W w
  lt : W.heap.size < w.heap.size
section
variable {W : World} {cs : Array Value}
theorem PrT.below {w w' : World} (h : PrT W cs w) (hb : Below w.heap.size w w') : PrT W cs w' :=
  ⟨(hb.block _ h.lt).trans h.box, bstep h.low hb h.low.size, Nat.lt_of_lt_of_le h.lt hb.size⟩
theorem PrT.cell {w : World} (h : PrT W cs w) {k : Nat} {v : Value} (hk : cs[k]? = some v) : w.cell? ⟨W.heap.size, k, none⟩ = some v := (cell_of_row _ _ k _ _ _ h.box).trans hk
/-- The same, and a box beside. -/
structure PrX (W : World) (cs : Array Value) (xb : Nat) (fx : Array Value) (T : TypeId) (w : World) : Prop where
  pr : PrT W cs w
  row : w.heap[xb]? = some (.cells fx T (0, 0))
theorem PrX.below {w w' : World} {xb : Nat} {fx : Array Value} {T : TypeId} (h : PrX W cs xb fx T w) (hb : Below w.heap.size w w') : PrX W cs xb fx T w' :=
  ⟨h.pr.below hb, (hb.block _ (Array.getElem?_eq_some_iff.1 h.row).1).trans h.row⟩
theorem PrX.cell {w : World} {xb : Nat} {fx : Array Value} {T : TypeId} (h : PrX W cs xb fx T w) {k : Nat} {v : Value} (hk : fx[k]? = some v) : w.cell? ⟨xb, k, none⟩ = some v := (cell_of_row _ _ k _ _ _ h.row).trans hk
end
/-! Sums of strings. -/
theorem cat0 (a b : Wd) : ((((⟨#[102, 108, 111, 119, 115, 32]⟩ : ByteArray) ++ ⟨a.toArray⟩) ++ ⟨#[10, 101, 114, 114, 111, 114, 115, 32]⟩) ++ ⟨b.toArray⟩) ++ ⟨#[10]⟩ = ⟨(unlines [spaced [wFlows, a], spaced [wErrors, b]]).toArray⟩ := by
  apply ByteArray.ext
  simp [ByteArray.data_append, unlines, spaced, wFlows, wErrors]
theorem cat1 (U n p d m : Wd) : (((((((((⟨U.toArray⟩ : ByteArray) ++ ⟨#[105, 102, 97, 99, 101, 32]⟩) ++ ⟨n.toArray⟩) ++ ⟨#[32]⟩) ++ ⟨p.toArray⟩) ++ ⟨#[32, 109, 116, 117, 32]⟩) ++ ⟨d.toArray⟩) ++ ⟨#[32, 114, 112, 102, 32]⟩) ++ ⟨m.toArray⟩) ++ ⟨#[10]⟩ = ⟨(U ++ (spaced [wIface, n, p, wMtu, d, wRpf, m] ++ [10])).toArray⟩ := by
  apply ByteArray.ext
  simp [ByteArray.data_append, spaced, wIface, wMtu, wRpf]
theorem cat2 (U p : Wd) : (((⟨U.toArray⟩ : ByteArray) ++ ⟨#[98, 111, 103, 111, 110, 32]⟩) ++ ⟨p.toArray⟩) ++ ⟨#[10]⟩ = ⟨(U ++ (spaced [wBogon, p] ++ [10])).toArray⟩ := by
  apply ByteArray.ext
  simp [ByteArray.data_append, spaced, wBogon]
theorem cat3 (U n : Wd) : ((⟨U.toArray⟩ : ByteArray) ++ ⟨#[116, 97, 98, 108, 101, 32]⟩) ++ ⟨n.toArray⟩ = ⟨(U ++ spaced [wTable, n]).toArray⟩ := by
  apply ByteArray.ext
  simp [ByteArray.data_append, spaced, wTable]
theorem cat4 (U p : Wd) : ((⟨U.toArray⟩ : ByteArray) ++ ⟨#[32]⟩) ++ ⟨p.toArray⟩ = ⟨(U ++ (32 :: p)).toArray⟩ := by
  apply ByteArray.ext
  simp [ByteArray.data_append]
theorem cat5 (U : Wd) : (⟨U.toArray⟩ : ByteArray) ++ ⟨#[10]⟩ = ⟨(U ++ [10]).toArray⟩ := by
  apply ByteArray.ext
  simp [ByteArray.data_append]
theorem cat6 (U p : Wd) : ((⟨U.toArray⟩ : ByteArray) ++ ⟨p.toArray⟩) ++ ⟨#[10]⟩ = ⟨(U ++ (p ++ [10])).toArray⟩ := by
  apply ByteArray.ext
  simp [ByteArray.data_append]
theorem words_grow (nm : Wd) (l : List Pfx) (j : Nat) (p : Pfx) (hp : l[j]? = some p) : spaced (wordsT nm l (j + 1)) = spaced (wordsT nm l j) ++ (32 :: printP p) := by
  unfold wordsT
  rw [List.take_add_one, hp]
  simp [spaced]
theorem bind_dec (n : Int) (h0 : 0 ≤ n) (h1 : n ≤ 9223372036854775807) (W : World) : Calls Tryz.prog 82 #[.int .i64 n] W fun e w' => e = .returned (.string ⟨(Lib.itoa n).toArray⟩) ∧ Below W.heap.size W w' := by
  obtain ⟨k, rfl⟩ : ∃ k : Nat, n = k := ⟨n.toNat, by omega⟩
  rw [itoa_of _ (by omega)]
  exact dec_any k (by omega) W
set_option maxRecDepth 20000 in
set_option maxHeartbeats 8000000 in
theorem text_any (KPR : RPrintSaid) (c : ConfM) (v0 v1 v2 v3 : Value) (ts : List (NamedM × Value)) (W : World) (h : ConfIn W v0 v1 v2 v3 ts c) (hf : FitC c) (hc : isC0 c = true) (hl : LibOK W) :
    Calls Tryz.prog 37 #[.agg (confC v0 v1 v2 v3 c)] W fun e w' => e = .returned (.string ⟨(textC c).toArray⟩) ∧ Below W.heap.size W w' := by
  have I0 := isC0_facts c hc
  have KPR := Lib.hid KPR
  have KF := Lib.hid (fun W' => bind_dec c.flows (by have := I0.f0; omega) (by have := I0.f1; omega) W')
  have KE := Lib.hid (fun W' => bind_dec c.errors (by have := I0.e0; omega) (by have := I0.e1; omega) W')
  have KM := Lib.hid rmode_any
  have HW := Lib.hid h
  have HL := Lib.hid (fun W' (hb : Below W.heap.size W W') => hl.below hb)
  have HI := Lib.hid I0
  have HT := Lib.hid (text_bound c I0 hf)
  have HO := Lib.hid hf
  have lf := CgP.itoa_len c.flows (by have := I0.f0; omega) (by have := I0.f1; omega)
  have le := CgP.itoa_len c.errors (by have := I0.e0; omega) (by have := I0.e1; omega)
  obtain ⟨A0, cap0, e0, -, -⟩ := h.ifaces
  obtain ⟨A1, cap1, e1, -, -⟩ := h.bogons
  obtain ⟨A2, cap2, e2, -, -⟩ := h.tables
  obtain ⟨A3, cap3, e3, -, -⟩ := h.rules
  subst e0 e1 e2 e3
  clear hl h hc hf I0
  generalize hcs : confC (.slice A0 c.ifaces.length cap0) (.slice A1 c.bogons.length cap1) (.slice A2 ts.length cap2) (.slice A3 c.rules.length cap3) c = cs at *
  have d0 : cs[0]? = some (.slice A0 c.ifaces.length cap0) := by rw [← hcs]; rfl
  have d1 : cs[1]? = some (.slice A1 c.bogons.length cap1) := by rw [← hcs]; rfl
  have d2 : cs[2]? = some (.slice A2 ts.length cap2) := by rw [← hcs]; rfl
  have d3 : cs[3]? = some (.slice A3 c.rules.length cap3) := by rw [← hcs]; rfl
  have d4 : cs[4]? = some (.int .i64 c.flows) := by rw [← hcs]; rfl
  have d5 : cs[5]? = some (.int .i64 c.errors) := by rw [← hcs]; rfl
  have HD : Hid (_ ∧ _ ∧ _ ∧ _ ∧ _ ∧ _) := ⟨d0, d1, d2, d3, d4, d5⟩
  clear hcs d0 d1 d2 d3 d4 d5
  have HP : Hid (PrT W cs (W.alloc (.cells cs 27))) := ⟨heap_alloc_new W _, bnew W _, by simp⟩
  have hct := cat0 (Lib.itoa c.flows) (Lib.itoa c.errors)
  have HC0 := Lib.hid hct
  clear hct
  generalize hfl : Lib.itoa c.flows = fl at *
  generalize hel : Lib.itoa c.errors = el at *
  go_enter Tryz.func37, Tryz.ntmps37
  go_wp2_with fail
  refine region_in (PrT W cs) (by kernel_rfl) (by kernel_rfl) (HP.out.below (Below.refl _ _).drew) ?_
  repeat (first
  | go_big_quiet_skip
  | (go_big_quiet_want; first
      | ((with_reducible refine load_one W.heap.size 4 ?_ (fun p => p.property.cell HD.out.2.2.2.2.1) Tryz.isAgg3 ?_); rfl; simp only [Act.put, List.setIfInBounds_toArray, List.set_cons_zero, List.set_cons_succ]; go_big_quiet_on)
      | ((with_reducible refine load_one W.heap.size 5 ?_ (fun p => p.property.cell HD.out.2.2.2.2.2) Tryz.isAgg3 ?_); rfl; simp only [Act.put, List.setIfInBounds_toArray, List.set_cons_zero, List.set_cons_succ]; go_big_quiet_on)
      | (go_big_quiet_op; first
        | go_big_quiet_on
        | ((refine ⟨_, fun _ _ => rfl, ?_⟩); go_big_quiet_on)
        | (apply Exists.intro; (with_reducible refine ⟨fun W1 hW1 => (KF.out W1).mono ?_, ?_⟩); (rintro e w1 ⟨rfl, hb1⟩; exact ⟨rfl, hW1.below hb1⟩); go_big_quiet_on)
        | (apply Exists.intro; (with_reducible refine ⟨fun W1 hW1 => (KE.out W1).mono ?_, ?_⟩); (rintro e w1 ⟨rfl, hb1⟩; exact ⟨rfl, hW1.below hb1⟩); go_big_quiet_on))))
  refine wpQuiet_nil ?_
  rintro _ ⟨⟨w2, h2⟩, rfl⟩
  have HP := Lib.hid h2
  have q0 := h2.cell HD.out.1
  clear h2 lf le
  try rw [HC0.out]
  obtain ⟨A, hA⟩ : ∃ A, A = [spaced [wFlows, fl], spaced [wErrors, el]] := ⟨_, rfl⟩
  rw [← hA]
  have HT1 : Hid ((unlines (A ++ (c.ifaces.map (fun x => spaced (ifaceW x)) ++ (c.bogons.map (fun p => spaced [wBogon, printP p]) ++ (c.tables.map (fun t => spaced (tableW t)) ++ c.rules.map (printed)))))).length ≤ 8000000000) := by rw [hA, ← hfl, ← hel]; exact HT.out
  have HTE : Hid (textC c = unlines (A ++ (c.ifaces.map (fun x => spaced (ifaceW x)) ++ (c.bogons.map (fun p => spaced [wBogon, printP p]) ++ (c.tables.map (fun t => spaced (tableW t)) ++ c.rules.map (printed)))))) := by rw [hA, ← hfl, ← hel]; rfl
  clear HT hA HC0 KF KE hfl hel
  go_wp2_with fail
  go_loopw [3, 4] (fun s3 s4 wr => ∃ k : Nat, k ≤ c.ifaces.length ∧ s4 = .int .i64 k ∧ s3 = .string ⟨(unlines (A ++ (c.ifaces.take k).map (fun x => spaced (ifaceW x)))).toArray⟩ ∧ PrT W cs wr) (fun s3 s4 _ => c.ifaces.length - (intOf s4).toNat)
  case atStart => exact ⟨0, by omega, rfl, by simp, HP.out⟩
  case round =>
    obtain ⟨k, hkl, rfl, rfl, hp⟩ := hrel
    have HP := Lib.hid hp
    have q0 := hp.cell HD.out.1
    have q1 := hp.cell HD.out.2.1
    have HF := Lib.hid (take_fits A _ c.ifaces (fun x => spaced (ifaceW x)) k _ HT1.out)
    by_cases hlt : k < c.ifaces.length
    · have hlt' : (k : Int) < c.ifaces.length := by omega
      have hk63 : (k : Int) + 1 ≤ 9223372036854775807 := by have := HO.out.ni; omega
      obtain ⟨x, hx⟩ : ∃ x, c.ifaces[k]? = some x := ⟨_, List.getElem?_eq_getElem hlt⟩
      have hxm := List.mem_of_getElem? hx
      obtain ⟨f1, f2, f3, f4⟩ := isI_facts x (List.all_eq_true.1 HI.out.ifaces x hxm)
      obtain ⟨b, o, c1, hv1, -, hbl, hr⟩ := HW.out.ifaces.at ifL_len k x hx
      injection hv1 with e1 e2 e3
      subst e1 e3
      have HX := Lib.hid (range_below hr hp.low hbl)
      have HN := Lib.hid (info5 x)
      have HNl := Lib.hid (show (Tryz.prog.info? 45).map (·.size) = some (ifL x).length by kernel_rfl)
      have HOne := Lib.hid (show (ifL x).toArray.all (·.oneCell') = true by kernel_rfl)
      have HSz := Lib.hid (show (ifL x).toArray.size = 5 from rfl)
      have KP := Lib.hid (fun W' hL => rpprint_any x.addr (HO.out.ok.ifaces x hxm) W' hL)
      have KT := Lib.hid (fun W' => bind_dec x.mtu (by omega) (by omega) W')
      obtain ⟨r, hrp⟩ : ∃ r : Nat, x.rpf = r := ⟨x.rpf.toNat, by omega⟩
      have KR := Lib.hid (KM.out r (by omega))
      have ln := name_len _ f1
      have lp := printP_len x.addr (by omega) f2.2
      have ld := CgP.itoa_len x.mtu (by omega) (by omega)
      have lm := mode_len' (r : Int) (by omega) (by omega)
      have HC1 := Lib.hid (cat1 (unlines (A ++ (c.ifaces.take k).map (fun x => spaced (ifaceW x)))) x.name (printP x.addr) (Lib.itoa x.mtu) (modeW (r : Int)))
      have hw : [wIface, x.name, printP x.addr, wMtu, Lib.itoa x.mtu, wRpf, modeW (r : Int)] = ifaceW x := by rw [← hrp]; rfl
      rw [hw, CgP.unlines_one, CgP.pre_take A c.ifaces (fun x => spaced (ifaceW x)) k x hx] at HC1
      have e0 : (ifL x).toArray[0]? = some (.string ⟨x.name.toArray⟩) := rfl
      have e3 : (ifL x).toArray[3]? = some (.int .i64 x.mtu) := rfl
      have e4 : (ifL x).toArray[4]? = some (.int .i64 (r : Nat)) := by rw [← hrp]; rfl
      have ex : (ifL x).toArray.extract 1 (1 + 2) = #[.int .u32 (x.addr.addr : Nat), .int .i64 x.addr.len] := rfl
      have HE : Hid (_ ∧ _ ∧ _ ∧ _) := ⟨e0, e3, e4, ex⟩
      clear hr hxm e0 e3 e4 ex hx hrp f1 f2 f3 f4 hw
      generalize ifL x = fx at *
      have lU := HF.out
      generalize unlines (A ++ (c.ifaces.take k).map (fun x => spaced (ifaceW x))) = U at HC1 lU ⊢
      go_wp2_with (first
        | ((with_reducible refine load_range b (o + k * 5) ?_ HX.out Tryz.underlying45 HNl.out ?_ ?_); rfl; rfl)
        | ((with_reducible refine store_new fx.toArray ?_ ?_ ?_ HN.out HOne.out ?_ ?_); rfl; rfl; exact HSz.out; rfl; intro V hV hbV hlV))
      have HPX : Hid (PrX W cs wr.heap.size fx.toArray 45 V) := ⟨hp.below hbV, hV⟩
      clear hV hbV hlV hp q0 q1 HP
      generalize wr.heap.size = xb at *
      generalize x.name = nm at *
      generalize printP x.addr = pp at *
      generalize Lib.itoa x.mtu = dd at *
      generalize modeW (r : Int) = mw at *
      refine region_in (PrX W cs xb fx.toArray 45) (by kernel_rfl) (by kernel_rfl) (HPX.out.below (Below.refl _ _).drew) ?_
      repeat (first
      | go_big_quiet_skip
      | (go_big_quiet_want; first
          | ((with_reducible refine load_one xb 0 ?_ (fun p => p.property.cell HE.out.1) Tryz.isAgg9 ?_); rfl; simp only [Act.put, List.setIfInBounds_toArray, List.set_cons_zero, List.set_cons_succ]; go_big_quiet_on)
          | ((with_reducible refine load_one xb 3 ?_ (fun p => p.property.cell HE.out.2.1) Tryz.isAgg3 ?_); rfl; simp only [Act.put, List.setIfInBounds_toArray, List.set_cons_zero, List.set_cons_succ]; go_big_quiet_on)
          | ((with_reducible refine load_one xb 4 ?_ (fun p => p.property.cell HE.out.2.2.1) Tryz.isAgg3 ?_); rfl; simp only [Act.put, List.setIfInBounds_toArray, List.set_cons_zero, List.set_cons_succ]; go_big_quiet_on)
          | ((with_reducible refine load_in xb 1 ?_ (fun p => Mem.range_part p.property.row HE.out.2.2.2) Tryz.underlying43 (by kernel_rfl) ?_); rfl; simp only [Act.put, List.setIfInBounds_toArray, List.set_cons_zero, List.set_cons_succ]; go_big_quiet_on)
          | (go_big_quiet_op; first
            | go_big_quiet_on
            | ((refine ⟨_, fun _ _ => rfl, ?_⟩); go_big_quiet_on)
            | (apply Exists.intro; (with_reducible refine ⟨fun W1 hW1 => (KP.out W1 (HL.out _ hW1.pr.low)).mono ?_, ?_⟩); (rintro e w1 ⟨rfl, hb1⟩; exact ⟨rfl, hW1.below hb1⟩); go_big_quiet_on)
            | (apply Exists.intro; (with_reducible refine ⟨fun W1 hW1 => (KT.out W1).mono ?_, ?_⟩); (rintro e w1 ⟨rfl, hb1⟩; exact ⟨rfl, hW1.below hb1⟩); go_big_quiet_on)
            | (apply Exists.intro; (with_reducible refine ⟨fun W1 hW1 => (KR.out W1).mono ?_, ?_⟩); (rintro e w1 ⟨rfl, hb1⟩; exact ⟨rfl, hW1.below hb1⟩); go_big_quiet_on))))
      refine wpQuiet_nil ?_
      rintro _ ⟨⟨w2, h2⟩, rfl⟩
      have HP := Lib.hid h2.pr
      clear h2
      go_wp2_with fail
      go_roundw
      case rel => exact ⟨k + 1, by omega, by go_num, by rw [← HC1.out], HP.out⟩
      case measure => simp only [intOf]; go_num
    · obtain rfl : k = c.ifaces.length := by omega
      have hs : (A ++ (c.ifaces.take c.ifaces.length).map (fun x => spaced (ifaceW x))) = A ++ c.ifaces.map (fun x => spaced (ifaceW x)) := by rw [List.take_length]
      rw [hs]
      clear hs HF hp
      generalize hA2 : A ++ c.ifaces.map (fun x => spaced (ifaceW x)) = A2 at *
      have HT2 : Hid ((unlines (A2 ++ (c.bogons.map (fun p => spaced [wBogon, printP p]) ++ (c.tables.map (fun t => spaced (tableW t)) ++ c.rules.map (printed))))).length ≤ 8000000000) := by rw [← hA2, List.append_assoc]; exact HT1.out
      have HTE : Hid (textC c = unlines (A2 ++ (c.bogons.map (fun p => spaced [wBogon, printP p]) ++ (c.tables.map (fun t => spaced (tableW t)) ++ c.rules.map (printed))))) := by rw [← hA2, List.append_assoc]; exact HTE.out
      clear HT1 hA2 KM
      go_wp2_with fail
      go_loopw [3, 6] (fun s3 s6 wr => ∃ k : Nat, k ≤ c.bogons.length ∧ s6 = .int .i64 k ∧ s3 = .string ⟨(unlines (A2 ++ (c.bogons.take k).map (fun p => spaced [wBogon, printP p]))).toArray⟩ ∧ PrT W cs wr) (fun s3 s6 _ => c.bogons.length - (intOf s6).toNat)
      case atStart => exact ⟨0, by omega, rfl, by simp, HP.out⟩
      case round =>
        obtain ⟨k, hkl, rfl, rfl, hp⟩ := hrel
        have HP := Lib.hid hp
        have q1 := hp.cell HD.out.2.1
        have q2 := hp.cell HD.out.2.2.1
        have HF := Lib.hid (take_fits A2 _ c.bogons (fun p => spaced [wBogon, printP p]) k _ HT2.out)
        by_cases hlt : k < c.bogons.length
        · have hlt' : (k : Int) < c.bogons.length := by omega
          have hk63 : (k : Int) + 1 ≤ 9223372036854775807 := by have := HO.out.nb; omega
          obtain ⟨x, hx⟩ : ∃ x, c.bogons[k]? = some x := ⟨_, List.getElem?_eq_getElem hlt⟩
          have hxm := List.mem_of_getElem? hx
          have hb := HI.out.bogons
          simp only [prefsOK, Bool.and_eq_true] at hb
          have hxl := isF_len x (List.all_eq_true.1 hb.2 x hxm)
          obtain ⟨b, o, c1, hv1, -, hbl, hr⟩ := HW.out.bogons.at pfxL_len k x hx
          injection hv1 with e1 e2 e3
          subst e1 e3
          have HX := Lib.hid (range_below hr hp.low hbl)
          have HNl := Lib.hid (show (Tryz.prog.info? 43).map (·.size) = some (pfxL x).length by kernel_rfl)
          have KP := Lib.hid (fun W' hL => rpprint_any x (HO.out.ok.bogons x hxm) W' hL)
          have KP := Lib.hid (show ∀ W', LibOK W' → Calls Tryz.prog 83 #[.agg (pfxL x).toArray] W' _ from KP.out)
          have lp := printP_len x hxl.1 hxl.2
          have HC1 := Lib.hid (cat2 (unlines (A2 ++ (c.bogons.take k).map (fun p => spaced [wBogon, printP p]))) (printP x))
          rw [CgP.unlines_one, CgP.pre_take A2 c.bogons (fun p => spaced [wBogon, printP p]) k x hx] at HC1
          clear hr hxm hx hb
          generalize pfxL x = fx at *
          have lU := HF.out
          generalize unlines (A2 ++ (c.bogons.take k).map (fun p => spaced [wBogon, printP p])) = U at HC1 lU ⊢
          generalize printP x = pp at *
          go_wp2_with (first
            | ((with_reducible refine load_range b (o + k * 2) ?_ HX.out Tryz.underlying43 HNl.out ?_ ?_); rfl; rfl)
            | (go_at_call 83; (with_reducible refine (KP.out _ (HL.out _ HP.out.low)).mono ?_); rintro e u1 ⟨rfl, hb1⟩; have HP := Lib.hid (HP.out.below hb1); clear hb1))
          go_roundw
          case rel => exact ⟨k + 1, by omega, by go_num, by rw [← HC1.out], HP.out⟩
          case measure => simp only [intOf]; go_num
        · obtain rfl : k = c.bogons.length := by omega
          have hs : (A2 ++ (c.bogons.take c.bogons.length).map (fun p => spaced [wBogon, printP p])) = A2 ++ c.bogons.map (fun p => spaced [wBogon, printP p]) := by rw [List.take_length]
          rw [hs]
          clear hs HF hp
          generalize hA3 : A2 ++ c.bogons.map (fun p => spaced [wBogon, printP p]) = A3 at *
          have HT3 : Hid ((unlines (A3 ++ (c.tables.map (fun t => spaced (tableW t)) ++ c.rules.map (printed)))).length ≤ 8000000000) := by rw [← hA3, List.append_assoc]; exact HT2.out
          have HTE : Hid (textC c = unlines (A3 ++ (c.tables.map (fun t => spaced (tableW t)) ++ c.rules.map (printed)))) := by rw [← hA3, List.append_assoc]; exact HTE.out
          clear HT2 hA3
          go_wp2_with fail
          go_loopw [3, 7] (fun s3 s7 wr => ∃ k : Nat, k ≤ ts.length ∧ s7 = .int .i64 k ∧ s3 = .string ⟨(unlines (A3 ++ (c.tables.take k).map (fun t => spaced (tableW t)))).toArray⟩ ∧ PrT W cs wr) (fun s3 s7 _ => ts.length - (intOf s7).toNat)
          case atStart => exact ⟨0, by omega, rfl, by simp, HP.out⟩
          case round =>
            obtain ⟨k, hkl, rfl, rfl, hp⟩ := hrel
            have HP := Lib.hid hp
            have q2 := hp.cell HD.out.2.2.1
            have q3 := hp.cell HD.out.2.2.2.1
            have HF := Lib.hid (take_fits A3 _ c.tables (fun t => spaced (tableW t)) k _ HT3.out)
            by_cases hlt : k < ts.length
            · have hlt' : (k : Int) < ts.length := by omega
              have hk63 : (k : Int) + 1 ≤ 9223372036854775807 := by have := HO.out.nt; have := HW.out.tlen; omega
              obtain ⟨t, hx⟩ : ∃ t, ts[k]? = some t := ⟨_, List.getElem?_eq_getElem hlt⟩
              have hxm := List.mem_of_getElem? hx
              have hxt : c.tables[k]? = some t.1 := by rw [← HW.out.tab, List.getElem?_map, hx]; rfl
              have htm := List.mem_of_getElem? hxt
              obtain ⟨b, o, c1, hv1, -, hbl, hr⟩ := HW.out.tables.at nmL_len k t hx
              injection hv1 with e1 e2 e3
              subst e1 e3
              have HX0 := Lib.hid hr
              have hbl0 := hbl
              have HTin := Lib.hid (HW.out.tin t hxm)
              have HPo := Lib.hid (HO.out.ok.tables t.1 htm)
              have hall := List.all_eq_true.1 HI.out.tables t.1 htm
              simp only [prefsOK, Bool.and_eq_true, decide_eq_true_eq] at hall
              have ln := name_len _ hall.1
              have hln : t.1.l.length ≤ 256 := hall.2.1
              have HPf := Lib.hid hall.2.2
              have HG := Lib.hid (CgP.pre_take A3 c.tables (fun t => spaced (tableW t)) k t.1 hxt)
              clear hr hxm hx hxt htm hall
              obtain ⟨⟨nm, l⟩, u⟩ := t
              dsimp only at HTin HPo HG hln ln HPf
              obtain ⟨AL, capL, eL, -, -⟩ := HTin.out
              subst eL
              have HX0 := Lib.hid (show W.rangeAt b (o + k * 2) [Value.string ⟨nm.toArray⟩, .slice AL l.length capL] from HX0.out)
              have g0 : wr.cell? ⟨b, o + k * 2, none⟩ = some (.string ⟨nm.toArray⟩) := range_below HX0.out hp.low hbl0 0 _ rfl
              have g1 : wr.cell? ⟨b, o + k * 2 + 1, none⟩ = some (.slice AL l.length capL) := range_below HX0.out hp.low hbl0 1 _ rfl
              have lU := HF.out
              have HG : Hid (unlines (A3 ++ (c.tables.take k).map (fun t => spaced (tableW t))) ++ (spaced (tableW ⟨nm, l⟩) ++ [10]) = unlines (A3 ++ (c.tables.take (k + 1)).map (fun t => spaced (tableW t)))) := by rw [CgP.unlines_one]; exact congrArg unlines HG.out
              generalize unlines (A3 ++ (c.tables.take k).map (fun t => spaced (tableW t))) = U at HG lU ⊢
              have HC3 := Lib.hid (cat3 U nm)
              go_wp2_with fail
              rw [HC3.out]
              go_loopw [3, 8] (fun s3 s8 wq => ∃ j : Nat, j ≤ l.length ∧ s8 = .int .i64 j ∧ s3 = .string ⟨(U ++ spaced (wordsT nm l j)).toArray⟩ ∧ PrT W cs wq) (fun s3 s8 _ => l.length - (intOf s8).toNat)
              case atStart => exact ⟨0, by omega, rfl, rfl, HP.out⟩
              case round =>
                obtain ⟨j, hjl, rfl, rfl, hq⟩ := hrel
                have HP := Lib.hid hq
                clear q2 q3 g0 g1
                have q2 := hq.cell HD.out.2.2.1
                have q3 := hq.cell HD.out.2.2.2.1
                have g0 := range_below HX0.out hq.low hbl0 0 _ rfl
                have g1 : wr.cell? ⟨b, o + k * 2 + 1, none⟩ = some (.slice AL l.length capL) := range_below HX0.out hq.low hbl0 1 _ rfl
                have lW : (spaced (wordsT nm l j)).length ≤ 100000 := by
                  have h := spaced_len 21 (wordsT nm l j) (fun w hw => by
                    simp only [wordsT, List.mem_cons, List.mem_map] at hw
                    rcases hw with rfl | rfl | ⟨p, hp, rfl⟩
                    · decide
                    · omega
                    · have hl := isF_len p (List.all_eq_true.1 HPf.out p (List.mem_of_mem_take hp))
                      exact printP_len p hl.1 hl.2)
                  have e : (wordsT nm l j).length ≤ 258 := by simp [wordsT]; omega
                  have := Nat.mul_le_mul_right 22 e
                  omega
                by_cases hlj : j < l.length
                · have hlj' : (j : Int) < l.length := by omega
                  have hj63 : (j : Int) + 1 ≤ 9223372036854775807 := by omega
                  obtain ⟨p, hp'⟩ : ∃ p, l[j]? = some p := ⟨_, List.getElem?_eq_getElem hlj⟩
                  have hpm := List.mem_of_getElem? hp'
                  have hxl := isF_len p (List.all_eq_true.1 HPf.out p hpm)
                  obtain ⟨b', o', c2, hv2, -, hbl, hr⟩ := HTin.out.at pfxL_len j p hp'
                  injection hv2 with e1 e2 e3
                  subst e1 e3
                  have HX := Lib.hid (range_below hr hq.low hbl)
                  have HNl := Lib.hid (show (Tryz.prog.info? 43).map (·.size) = some (pfxL p).length by kernel_rfl)
                  have KP := Lib.hid (fun W' hL => rpprint_any p (HPo.out p hpm) W' hL)
                  have KP := Lib.hid (show ∀ W', LibOK W' → Calls Tryz.prog 83 #[.agg (pfxL p).toArray] W' _ from KP.out)
                  have lp := printP_len p hxl.1 hxl.2
                  have HC4 := Lib.hid (cat4 (U ++ spaced (wordsT nm l j)) (printP p))
                  rw [List.append_assoc U, ← words_grow nm l j p hp'] at HC4
                  have lV : (U ++ spaced (wordsT nm l j)).length ≤ 8000100000 := by rw [List.length_append]; omega
                  clear hr hpm hp'
                  generalize pfxL p = fx at *
                  generalize printP p = pp at *
                  generalize U ++ spaced (wordsT nm l j) = V at *
                  go_wp2_with (first
                    | ((with_reducible refine load_range b' (o' + j * 2) ?_ HX.out Tryz.underlying43 HNl.out ?_ ?_); rfl; rfl)
                    | (go_at_call 83; (with_reducible refine (KP.out _ (HL.out _ HP.out.low)).mono ?_); rintro e u1 ⟨rfl, hb1⟩; have HP := Lib.hid (HP.out.below hb1); clear hb1))
                  go_roundw
                  case rel => exact ⟨j + 1, by omega, by go_num, by rw [← HC4.out], HP.out⟩
                  case measure => simp only [intOf]; go_num
                · obtain rfl : j = l.length := by omega
                  have HC5 := Lib.hid (cat5 (U ++ spaced (wordsT nm l l.length)))
                  have lV : (U ++ spaced (wordsT nm l l.length)).length ≤ 8000100000 := by rw [List.length_append]; omega
                  have HG2 := Lib.hid (show (U ++ spaced (wordsT nm l l.length)) ++ [10] = unlines (A3 ++ (c.tables.take (k + 1)).map (fun t => spaced (tableW t))) by rw [← HG.out, words_all, List.append_assoc])
                  rw [HG2.out] at HC5
                  generalize U ++ spaced (wordsT nm l l.length) = V at *
                  go_wp2_with fail
                  go_roundw
                  case rel => exact ⟨k + 1, by omega, by go_num, by rw [← HC5.out], HP.out⟩
                  case measure => simp only [intOf]; go_num
            · obtain rfl : k = ts.length := by omega
              have hs : (A3 ++ (c.tables.take ts.length).map (fun t => spaced (tableW t))) = A3 ++ c.tables.map (fun t => spaced (tableW t)) := by rw [HW.out.tlen, List.take_length]
              rw [hs]
              clear hs HF hp
              generalize hA4 : A3 ++ c.tables.map (fun t => spaced (tableW t)) = A4 at *
              have HT4 : Hid ((unlines (A4 ++ (c.rules.map (printed) ++ []))).length ≤ 8000000000) := by rw [← hA4, List.append_assoc, List.append_nil]; exact HT3.out
              have HTE : Hid (textC c = unlines (A4 ++ c.rules.map (printed))) := by rw [← hA4, List.append_assoc]; exact HTE.out
              clear HT3 hA4
              go_wp2_with fail
              go_loopw [3, 9] (fun s3 s9 wr => ∃ k : Nat, k ≤ c.rules.length ∧ s9 = .int .i64 k ∧ s3 = .string ⟨(unlines (A4 ++ (c.rules.take k).map (printed))).toArray⟩ ∧ PrT W cs wr) (fun s3 s9 _ => c.rules.length - (intOf s9).toNat)
              case atStart => exact ⟨0, by omega, rfl, by simp, HP.out⟩
              case round =>
                obtain ⟨k, hkl, rfl, rfl, hp⟩ := hrel
                have HP := Lib.hid hp
                have q3 := hp.cell HD.out.2.2.2.1
                have HF := Lib.hid (take_fits A4 _ c.rules (printed) k _ HT4.out)
                by_cases hlt : k < c.rules.length
                · have hlt' : (k : Int) < c.rules.length := by omega
                  have hk63 : (k : Int) + 1 ≤ 9223372036854775807 := by have := HO.out.nr; omega
                  obtain ⟨x, hx⟩ : ∃ x, c.rules[k]? = some x := ⟨_, List.getElem?_eq_getElem hlt⟩
                  have hxm := List.mem_of_getElem? hx
                  obtain ⟨b, o, c1, hv1, -, hbl, hr⟩ := HW.out.rules.at rlL_len k x hx
                  injection hv1 with e1 e2 e3
                  subst e1 e3
                  have HX := Lib.hid (range_below hr hp.low hbl)
                  have HNl := Lib.hid (show (Tryz.prog.info? 75).map (·.size) = some (rlL x).length from info32 x)
                  have KP := Lib.hid (fun W' hL => KPR.out x (HO.out.ok.rules x hxm) W' hL)
                  have KP := Lib.hid (show ∀ W', LibOK W' → Calls Tryz.prog 85 #[.agg (rlL x).toArray] W' _ from by unfold rlL; rw [Array.toArray_toList]; exact KP.out)
                  have lp := rule_len x (List.all_eq_true.1 HI.out.rules x hxm) (HO.out.ok.rules x hxm)
                  have HC1 := Lib.hid (cat6 (unlines (A4 ++ (c.rules.take k).map (printed))) (printed x))
                  rw [CgP.unlines_one, CgP.pre_take A4 c.rules (printed) k x hx] at HC1
                  clear hr hxm hx
                  generalize rlL x = fx at *
                  have lU := HF.out
                  generalize unlines (A4 ++ (c.rules.take k).map (printed)) = U at HC1 lU ⊢
                  generalize printed x = pp at *
                  go_wp2_with (first
                    | ((with_reducible refine load_range b (o + k * 28) ?_ HX.out Tryz.underlying75 HNl.out ?_ ?_); rfl; rfl)
                    | (go_at_call 85; (with_reducible refine (KP.out _ (HL.out _ HP.out.low)).mono ?_); rintro e u1 ⟨rfl, hb1⟩; have HP := Lib.hid (HP.out.below hb1); clear hb1))
                  go_roundw
                  case rel => exact ⟨k + 1, by omega, by go_num, by rw [← HC1.out], HP.out⟩
                  case measure => simp only [intOf]; go_num
                · obtain rfl : k = c.rules.length := by omega
                  have hs : (A4 ++ (c.rules.take c.rules.length).map (printed)) = A4 ++ c.rules.map (printed) := by rw [List.take_length]
                  rw [hs, ← HTE.out]
                  go_wp2_with fail
                  go_ret
                  exact ⟨rfl, hp.low⟩
end Go.Proofs.YtnmbbnhgoedjgaaGreatDoor.Cg5

