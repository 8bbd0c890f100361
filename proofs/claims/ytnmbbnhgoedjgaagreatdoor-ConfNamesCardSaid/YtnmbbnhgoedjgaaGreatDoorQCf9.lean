/- conf: small predicates: closures over names, arePrefixes, isTable. conf.Iface: an interface's number. castellanref20.prefixes. castellanref20.Iface: an interface's number, the document's way. -/
import Derived.Test.YtnmbbnhgoedjgaaGreatDoorQCg4
import Derived.Test.YtnmbbnhgoedjgaaGreatDoorQRuG
import Derived.Test.YtnmbbnhgoedjgaaGreatDoorQStA
import Derived.Test.YtnmbbnhgoedjgaaGreatDoorQAd2
namespace Go.Proofs.YtnmbbnhgoedjgaaGreatDoor.Cf6
open Go Go.RowKit Go.Proofs.YtnmbbnhgoedjgaaGreatDoor.Cf4 Go.Proofs.YtnmbbnhgoedjgaaGreatDoor.Ad0 Go.Proofs.YtnmbbnhgoedjgaaGreatDoor.Ad1 Go.Proofs.YtnmbbnhgoedjgaaGreatDoor.Cf5 Go.Proofs.YtnmbbnhgoedjgaaGreatDoor.St2 Go.Proofs.YtnmbbnhgoedjgaaGreatDoor.St3 Go.Proofs.YtnmbbnhgoedjgaaGreatDoor.Ru0 Go.Proofs.YtnmbbnhgoedjgaaGreatDoor.Ru3 Go.Proofs.YtnmbbnhgoedjgaaGreatDoor.Ru6 Go.Proofs.YtnmbbnhgoedjgaaGreatDoor.RuB Go.Proofs.YtnmbbnhgoedjgaaGreatDoor.RuC Go.Proofs.YtnmbbnhgoedjgaaGreatDoor.RuD
set_option linter.unusedVariables false
set_option linter.unusedSimpArgs false
def pfxL (p : Pfx) : List Value := [.int .u32 (p.addr : Nat), .int .i64 p.len]
theorem pfxL_len (p : Pfx) : (pfxL p).length = 2 := rfl
def prefsB (l : List Pfx) : Bool := decide (l.length ≤ 256) && l.all isF
theorem iface1_any (x nm : Wd) (v1 v2 v3 v4 : Value) (nb : Nat) (W : World) (hc : W.cell? ⟨nb, 0, none⟩ = some (.string ⟨nm.toArray⟩)) :
    Calls Tryz.prog 58 #[.agg #[.string ⟨x.toArray⟩, v1, v2, v3, v4], .pointer (some ⟨nb, 0, none⟩)] W fun e w' => e = .returned (.bool (x == nm)) ∧ Below W.heap.size W w' := by
  have hlt := World.block_lt_of_cell? W _ hc
  have hlt' : nb < W.heap.size := hlt
  have HB := Lib.hid (bnew W (.cells #[.string ⟨x.toArray⟩, v1, v2, v3, v4] 45))
  go_enter Tryz.func58, Tryz.ntmps58
  go_wp2_with fail
  go_ret
  exact ⟨rfl, HB.out⟩
theorem named1_any (x nm : Wd) (v1 : Value) (nb : Nat) (W : World) (hc : W.cell? ⟨nb, 0, none⟩ = some (.string ⟨nm.toArray⟩)) :
    Calls Tryz.prog 81 #[.agg #[.string ⟨x.toArray⟩, v1], .pointer (some ⟨nb, 0, none⟩)] W fun e w' => e = .returned (.bool (x == nm)) ∧ Below W.heap.size W w' := by
  have hlt := World.block_lt_of_cell? W _ hc
  have hlt' : nb < W.heap.size := hlt
  have HB := Lib.hid (bnew W (.cells #[.string ⟨x.toArray⟩, v1] 66))
  go_enter Tryz.func81, Tryz.ntmps81
  go_wp2_with fail
  go_ret
  exact ⟨rfl, HB.out⟩
theorem arePfx1_any (p : Pfx) (hp : p.ok) (W : World) :
    Calls Tryz.prog 87 #[.agg (pfxL p).toArray] W fun e w' => e = .returned (.bool (!isF p)) ∧ Below W.heap.size W w' := by
  have KI := Lib.hid (fun W' => is_any p hp W')
  have HB := Lib.hid (bnew W (.cells #[.int .u32 (p.addr : Nat), .int .i64 p.len] 43))
  have hr := heap_alloc_new W (.cells #[.int .u32 (p.addr : Nat), .int .i64 p.len] 43)
  have c0 := cell_of_row _ _ 0 _ _ _ hr
  have c1 := cell_of_row _ _ 1 _ _ _ hr
  unfold pfxL
  go_enter Tryz.func87, Tryz.ntmps87
  go_wp2_with (go_at_call 88; (with_reducible refine (KI.out _).mono ?_); rintro e w1 ⟨rfl, hb1⟩; have HB := Lib.hid (bstep HB.out hb1 HB.out.size); clear hb1)
  go_ret
  exact ⟨rfl, HB.out⟩
theorem any_not {α : Type} (p : α → Bool) (l : List α) : l.any (fun x => !p x) = !l.all p := by
  induction l with
  | nil => rfl
  | cons a t ih => simp [List.any_cons, List.all_cons, ih]
theorem arePfx_any (l : List Pfx) (ho : ∀ p ∈ l, p.ok) (hn : l.length ≤ 4611686018427387904) (v : Value) (W : World) (h : Sl W v l.length (l.flatMap pfxL)) :
    Calls Tryz.prog 38 #[v] W fun e w' => e = .returned (.bool (prefsB l)) ∧ Below W.heap.size W w' := by
  have HK := Lib.hid (has_pfxIs pfxL pfxL_len (fun p => !isF p) l hn v W h (fun p hp W' _ => arePfx1_any p (ho p hp) W'))
  rw [any_not] at HK
  unfold prefsB
  generalize l.all isF = b at HK ⊢
  obtain ⟨A, cap, rfl, hcap, -⟩ := h
  by_cases hl : l.length ≤ 256
  · have hl' : (l.length : Int) ≤ 256 := by omega
    have hd : decide (l.length ≤ 256) = true := by simpa using hl
    rw [hd]
    go_enter Tryz.func38, Tryz.ntmps38
    go_wp2_with (go_at_call 86; (with_reducible refine HK.out.mono ?_); rintro e w1 ⟨rfl, hb1⟩; have HB := Lib.hid hb1; clear hb1)
    go_ret
    exact ⟨by simp, HB.out⟩
  · have hl' : ¬ (l.length : Int) ≤ 256 := by omega
    have hd : decide (l.length ≤ 256) = false := by simpa using hl
    rw [hd]
    go_enter Tryz.func38, Tryz.ntmps38
    go_wp2_with fail
    go_ret
    exact ⟨rfl, Below.refl _ _⟩
theorem isTable_any (nm : Wd) (hnm : nm.length ≤ 9223372036854775807) (l : List Pfx) (ho : ∀ p ∈ l, p.ok) (hn : l.length ≤ 4611686018427387904) (u : Value) (W : World) (h : Sl W u l.length (l.flatMap pfxL)) :
    Calls Tryz.prog 44 #[.agg #[.string ⟨nm.toArray⟩, u]] W fun e w' => e = .returned (.bool (nameL nm && prefsB l)) ∧ Below W.heap.size W w' := by
  have KN := Lib.hid (fun W' => name_any nm hnm W')
  have hr := heap_alloc_new W (.cells #[.string ⟨nm.toArray⟩, u] 66)
  have HR := Lib.hid hr
  have HB := Lib.hid (bnew W (.cells #[.string ⟨nm.toArray⟩, u] 66))
  have HS := Lib.hid (h.below HB.out)
  have KP := Lib.hid (fun W' (h' : Sl W' u l.length (l.flatMap pfxL)) => arePfx_any l ho hn u W' h')
  clear h hr
  generalize prefsB l = b at KP ⊢
  cases hq : nameL nm
  all_goals
    rw [hq] at KN
    go_enter Tryz.func44, Tryz.ntmps44
    go_wp2_with (first
      | (go_at_call 63; (with_reducible refine (KN.out _).mono ?_); rintro e w1 ⟨rfl, hb1⟩; have HB := Lib.hid (bstep HB.out hb1 HB.out.size); have HR := row_step HR hb1; have HS := Lib.hid (HS.out.below hb1); have c1 := cell_of_row _ _ 1 _ _ _ HR.out; clear hb1)
      | (go_at_call 38; (with_reducible refine (KP.out _ HS.out).mono ?_); rintro e w2 ⟨rfl, hb2⟩; have HB := Lib.hid (bstep HB.out hb2 HB.out.size); clear hb2))
    go_ret
    exact ⟨by simp, HB.out⟩
end Go.Proofs.YtnmbbnhgoedjgaaGreatDoor.Cf6

namespace Go.Proofs.YtnmbbnhgoedjgaaGreatDoor.Cf8
open Go Go.RowKit Go.Proofs.YtnmbbnhgoedjgaaGreatDoor.Cf4 Go.Proofs.YtnmbbnhgoedjgaaGreatDoor.Ad1 Go.Proofs.YtnmbbnhgoedjgaaGreatDoor.Cf5 Go.Proofs.YtnmbbnhgoedjgaaGreatDoor.St2 Go.Proofs.YtnmbbnhgoedjgaaGreatDoor.Ru0 Go.Proofs.YtnmbbnhgoedjgaaGreatDoor.Ru6 Go.Proofs.YtnmbbnhgoedjgaaGreatDoor.RuB Go.Proofs.YtnmbbnhgoedjgaaGreatDoor.RuC Go.Proofs.YtnmbbnhgoedjgaaGreatDoor.Cf6
set_option linter.unusedVariables false
set_option linter.unusedSimpArgs false
theorem confIface_any {α : Type} (f : α → List Value) (nm : α → Wd) (hf : ∀ x, ∃ v1 v2 v3 v4, f x = [.string ⟨(nm x).toArray⟩, v1, v2, v3, v4]) (l : List α) (hn : l.length ≤ 4611686018427387904) (v0 v1 v2 v3 v4 v5 : Value) (name : Wd) (W : World) (h : Sl W v0 l.length (l.flatMap f)) :
    Calls Tryz.prog 22 #[.agg #[v0, v1, v2, v3, v4, v5], .string ⟨name.toArray⟩] W fun e w' => e = .returned (.int .i64 (idxF (fun x => nm x == name) l)) ∧ Below W.heap.size W w' := by
  have hk : ∀ x, (f x).length = 5 := fun x => by obtain ⟨a, b, c, d, e⟩ := hf x; rw [e]; rfl
  have hb2 := bnew2 W (.cells #[v0, v1, v2, v3, v4, v5] 27) (.cells #[.string ⟨name.toArray⟩] 9)
  have hr := heap_alloc2_old W (.cells #[v0, v1, v2, v3, v4, v5] 27) (.cells #[.string ⟨name.toArray⟩] 9)
  have hq := heap_alloc2_new W (.cells #[v0, v1, v2, v3, v4, v5] 27) (.cells #[.string ⟨name.toArray⟩] 9)
  have c0 := cell_of_row _ _ 0 _ _ _ hr
  have cq := cell_of_row _ _ 0 _ _ _ hq
  have HB := Lib.hid hb2
  have HK := Lib.hid (idx_iface f hk (fun x => nm x == name) l hn v0 _ (h.below hb2) (.pointer (some ⟨W.heap.size + 1, 0, none⟩)) (fun x hx W' hb => by
    obtain ⟨a, b, c, d, e⟩ := hf x
    rw [e]
    exact iface1_any (nm x) name a b c d (W.heap.size + 1) W' ((hb.cell (by simp)).trans cq)))
  clear hb2 hr hq h
  go_enter Tryz.func22, Tryz.ntmps22
  go_wp2_with (go_at_call 57; refine HK.out.mono ?_; rintro e w1 ⟨rfl, hb1⟩; have HB := Lib.hid (bstep HB.out hb1 HB.out.size); clear hb1)
  go_ret
  exact ⟨rfl, HB.out⟩
end Go.Proofs.YtnmbbnhgoedjgaaGreatDoor.Cf8

namespace Go.Proofs.YtnmbbnhgoedjgaaGreatDoor.CfA
open Go Go.RowKit Go.Proofs.YtnmbbnhgoedjgaaGreatDoor.Cf4 Go.Proofs.YtnmbbnhgoedjgaaGreatDoor.Ad0 Go.Proofs.YtnmbbnhgoedjgaaGreatDoor.Ad1 Go.Proofs.YtnmbbnhgoedjgaaGreatDoor.Ru6 Go.Proofs.YtnmbbnhgoedjgaaGreatDoor.Cf6 Go.Proofs.YtnmbbnhgoedjgaaGreatDoor.Ad2
set_option linter.unusedVariables false
set_option linter.unusedSimpArgs false
set_option maxHeartbeats 1000000 in
theorem refPrefs_any (l : List Pfx) (ho : ∀ p ∈ l, p.ok) (hn : l.length ≤ 4611686018427387904) (v : Value) (W : World) (h : Sl W v l.length (l.flatMap pfxL)) :
    Calls Tryz.prog 48 #[v] W fun e w' => e = .returned (.bool (prefsB l)) ∧ Below W.heap.size W w' := by
  have HS := Lib.hid h
  obtain ⟨A, cap, rfl, hcap, -⟩ := h
  go_enter Tryz.func48, Tryz.ntmps48
  go_wp2_with fail
  go_loopw [3] (fun i wr => ∃ k : Nat, k ≤ l.length ∧ i = .int .i64 k ∧ (∀ j y, j < k → l[j]? = some y → isF y = true) ∧ Below W.heap.size W wr) (fun i _ => l.length - (intOf i).toNat)
  case atStart => exact ⟨0, by omega, rfl, fun j y hj => absurd hj (by omega), Below.refl _ _⟩
  case round =>
    obtain ⟨k, hkl, rfl, hno, hb⟩ := hrel
    have HN := Lib.hid hno
    have HB := Lib.hid hb
    clear hno hb
    by_cases hlt : k < l.length
    · have hlt' : (k : Int) < l.length := by omega
      obtain ⟨x, hx⟩ : ∃ x, l[k]? = some x := ⟨_, List.getElem?_eq_getElem hlt⟩
      obtain ⟨b, o, cap', hv, -, hbl, hr⟩ := HS.out.at pfxL_len k x hx
      injection hv with e1 e2 e3
      subst e1 e3
      have hr' := range_below hr HB.out hbl
      have q0 : wr.cell? ⟨b, o + k * 2, none⟩ = some (.int .u32 (x.addr : Nat)) := hr' 0 _ rfl
      have q1 : wr.cell? ⟨b, o + k * 2 + 1, none⟩ = some (.int .i64 x.len) := hr' 1 _ rfl
      have KI := Lib.hid (fun W' => ris_any x (ho x (List.mem_of_getElem? hx)) W')
      clear hr hr'
      cases hp : isF x with
      | false =>
        have hall : l.all isF = false := by
          rw [List.all_eq_false]
          exact ⟨x, List.mem_of_getElem? hx, by rw [hp]; decide⟩
        have HH := Lib.hid (show prefsB l = false by unfold prefsB; rw [hall, Bool.and_false])
        rw [hp] at KI
        go_wp2_with (go_at_call 68; (with_reducible refine (KI.out _).mono ?_); rintro e w1 ⟨rfl, hb1⟩; have HB := Lib.hid (bstep HB.out hb1 HB.out.size); clear hb1)
        go_ret
        exact ⟨by rw [HH.out]; rfl, HB.out⟩
      | true =>
        have HM := Lib.hid (show ∀ j y, j < k + 1 → l[j]? = some y → isF y = true from fun j y hj hy => by
          by_cases e : j = k
          · subst e; rw [hx] at hy; cases hy; exact hp
          · exact HN.out j y (by omega) hy)
        rw [hp] at KI
        go_wp2_with (go_at_call 68; (with_reducible refine (KI.out _).mono ?_); rintro e w1 ⟨rfl, hb1⟩; have HB := Lib.hid (bstep HB.out hb1 HB.out.size); clear hb1)
        go_roundw
        case rel => exact ⟨k + 1, by omega, by go_num, HM.out, HB.out⟩
        case measure => simp only [intOf]; go_num
    · obtain rfl : k = l.length := by omega
      have hall : l.all isF = true := by
        rw [List.all_eq_true]
        intro y hy
        obtain ⟨j, hj, rfl⟩ := List.mem_iff_getElem.1 hy
        exact HN.out j _ hj (List.getElem?_eq_getElem hj)
      have HH := Lib.hid (show prefsB l = decide ((l.length : Int) ≤ 256) by
        unfold prefsB
        rw [hall, Bool.and_true, decide_eq_decide]
        omega)
      go_wp2_with fail
      go_ret
      exact ⟨by rw [HH.out]; rfl, HB.out⟩
end Go.Proofs.YtnmbbnhgoedjgaaGreatDoor.CfA

namespace Go.Proofs.YtnmbbnhgoedjgaaGreatDoor.Cf9
open Go Go.RowKit Go.Proofs.YtnmbbnhgoedjgaaGreatDoor.Cf4 Go.Proofs.YtnmbbnhgoedjgaaGreatDoor.Ad1 Go.Proofs.YtnmbbnhgoedjgaaGreatDoor.Cf5 Go.Proofs.YtnmbbnhgoedjgaaGreatDoor.St0 Go.Proofs.YtnmbbnhgoedjgaaGreatDoor.St2 Go.Proofs.YtnmbbnhgoedjgaaGreatDoor.Ru0 Go.Proofs.YtnmbbnhgoedjgaaGreatDoor.Ru6 Go.Proofs.YtnmbbnhgoedjgaaGreatDoor.RuB Go.Proofs.YtnmbbnhgoedjgaaGreatDoor.RuC
set_option linter.unusedVariables false
set_option linter.unusedSimpArgs false
set_option maxHeartbeats 1000000 in
theorem refIface_any {α : Type} (f : α → List Value) (nm : α → Wd) (hf : ∀ x, ∃ v1 v2 v3 v4, f x = [.string ⟨(nm x).toArray⟩, v1, v2, v3, v4]) (l : List α) (hn : l.length ≤ 4611686018427387904) (v0 v1 v2 v3 v4 v5 : Value) (name : Wd) (W : World) (h : Sl W v0 l.length (l.flatMap f)) :
    Calls Tryz.prog 23 #[.agg #[v0, v1, v2, v3, v4, v5], .string ⟨name.toArray⟩] W fun e w' => e = .returned (.int .i64 (idxF (fun x => nm x == name) l)) ∧ Below W.heap.size W w' := by
  have hk : ∀ x, (f x).length = 5 := fun x => by obtain ⟨a, b, c, d, e⟩ := hf x; rw [e]; rfl
  have hb := bnew W (.cells #[v0, v1, v2, v3, v4, v5] 27)
  have hr := heap_alloc_new W (.cells #[v0, v1, v2, v3, v4, v5] 27)
  have c0 := (cell_of_row _ _ 0 _ _ _ hr).trans (show (#[v0, v1, v2, v3, v4, v5] : Array Value)[0]? = some v0 from rfl)
  have HB := Lib.hid hb
  have HS := Lib.hid (h.below hb)
  obtain ⟨A, cap, rfl, hcap, -⟩ := h
  clear hb hr
  go_enter Tryz.func23, Tryz.ntmps23
  obtain ⟨W1, hW1⟩ : ∃ W1, W.alloc (.cells #[.slice A l.length cap, v1, v2, v3, v4, v5] 27) = W1 := ⟨_, rfl⟩
  rw [hW1] at HB HS c0
  go_wp2_with fail
  go_loop [5] (fun i => ∃ k : Nat, k ≤ l.length ∧ i = .int .i64 k ∧ ∀ j y, j < k → l[j]? = some y → (nm y == name) = false) (fun i => l.length - (intOf i).toNat)
  case atStart => exact ⟨0, by omega, rfl, fun j y hj => absurd hj (by omega)⟩
  case round =>
    obtain ⟨k, hkl, rfl, hno⟩ := hrel
    have HN := Lib.hid hno
    clear hno
    by_cases hlt : k < l.length
    · have hlt' : (k : Int) < l.length := by omega
      obtain ⟨x, hx⟩ : ∃ x, l[k]? = some x := ⟨_, List.getElem?_eq_getElem hlt⟩
      obtain ⟨b, o, cap', hv, -, hbl, hr⟩ := HS.out.at hk k x hx
      injection hv with e1 e2 e3
      subst e1 e3
      obtain ⟨a1, a2, a3, a4, e⟩ := hf x
      rw [e] at hr
      have q0 : W1.cell? ⟨b, o + k * 5, none⟩ = some (.string ⟨(nm x).toArray⟩) := hr 0 _ rfl
      clear hr e
      cases hp : nm x == name with
      | true =>
        have HH := Lib.hid (idx_hit (fun x => nm x == name) l k x hx hp HN.out)
        go_wp2_with fail
        go_ret
        exact ⟨by rw [HH.out]; rfl, HB.out⟩
      | false =>
        have HM := Lib.hid (show ∀ j y, j < k + 1 → l[j]? = some y → (nm y == name) = false from fun j y hj hy => by
          by_cases e : j = k
          · subst e; rw [hx] at hy; cases hy; exact hp
          · exact HN.out j y (by omega) hy)
        go_wp2_with fail
        go_round
        case rel => exact ⟨k + 1, by omega, by go_num, HM.out⟩
        case measure => simp only [intOf]; go_num
    · obtain rfl : k = l.length := by omega
      go_wp2_with fail
      go_ret
      exact ⟨by rw [idx_miss (fun x => nm x == name) l HN.out]; rfl, HB.out⟩
set_option maxHeartbeats 1000000 in
theorem refTable_any {α : Type} (f : α → List Value) (nm : α → Wd) (hf : ∀ x, ∃ v1, f x = [.string ⟨(nm x).toArray⟩, v1]) (l : List α) (hn : l.length ≤ 4611686018427387904) (v0 v1 v2 v3 v4 v5 : Value) (name : Wd) (W : World) (h : Sl W v2 l.length (l.flatMap f)) :
    Calls Tryz.prog 71 #[.agg #[v0, v1, v2, v3, v4, v5], .string ⟨name.toArray⟩] W fun e w' => e = .returned (.bool (l.any fun x => nm x == name)) ∧ Below W.heap.size W w' := by
  have hk : ∀ x, (f x).length = 2 := fun x => by obtain ⟨a, e⟩ := hf x; rw [e]; rfl
  have hb := bnew W (.cells #[v0, v1, v2, v3, v4, v5] 27)
  have hr := heap_alloc_new W (.cells #[v0, v1, v2, v3, v4, v5] 27)
  have c0 := (cell_of_row _ _ 2 _ _ _ hr).trans (show (#[v0, v1, v2, v3, v4, v5] : Array Value)[2]? = some v2 from rfl)
  have HB := Lib.hid hb
  have HS := Lib.hid (h.below hb)
  obtain ⟨A, cap, rfl, hcap, -⟩ := h
  clear hb hr
  go_enter Tryz.func71, Tryz.ntmps71
  obtain ⟨W1, hW1⟩ : ∃ W1, W.alloc (.cells #[v0, v1, .slice A l.length cap, v3, v4, v5] 27) = W1 := ⟨_, rfl⟩
  rw [hW1] at HB HS c0
  go_wp2_with fail
  go_loop [5] (fun i => ∃ k : Nat, k ≤ l.length ∧ i = .int .i64 k ∧ ∀ j y, j < k → l[j]? = some y → (nm y == name) = false) (fun i => l.length - (intOf i).toNat)
  case atStart => exact ⟨0, by omega, rfl, fun j y hj => absurd hj (by omega)⟩
  case round =>
    obtain ⟨k, hkl, rfl, hno⟩ := hrel
    have HN := Lib.hid hno
    clear hno
    by_cases hlt : k < l.length
    · have hlt' : (k : Int) < l.length := by omega
      obtain ⟨x, hx⟩ : ∃ x, l[k]? = some x := ⟨_, List.getElem?_eq_getElem hlt⟩
      obtain ⟨b, o, cap', hv, -, hbl, hr⟩ := HS.out.at hk k x hx
      injection hv with e1 e2 e3
      subst e1 e3
      obtain ⟨a1, e⟩ := hf x
      rw [e] at hr
      have q0 : W1.cell? ⟨b, o + k * 2, none⟩ = some (.string ⟨(nm x).toArray⟩) := hr 0 _ rfl
      clear hr e
      cases hp : nm x == name with
      | true =>
        have HH := Lib.hid (show l.any (fun x => nm x == name) = true by rw [← idx_any, idx_hit (fun x => nm x == name) l k x hx hp HN.out]; simp)
        go_wp2_with fail
        go_ret
        exact ⟨by rw [HH.out]; rfl, HB.out⟩
      | false =>
        have HM := Lib.hid (show ∀ j y, j < k + 1 → l[j]? = some y → (nm y == name) = false from fun j y hj hy => by
          by_cases e : j = k
          · subst e; rw [hx] at hy; cases hy; exact hp
          · exact HN.out j y (by omega) hy)
        go_wp2_with fail
        go_round
        case rel => exact ⟨k + 1, by omega, by go_num, HM.out⟩
        case measure => simp only [intOf]; go_num
    · obtain rfl : k = l.length := by omega
      go_wp2_with fail
      go_ret
      exact ⟨by rw [← idx_any, idx_miss (fun x => nm x == name) l HN.out]; rfl, HB.out⟩
end Go.Proofs.YtnmbbnhgoedjgaaGreatDoor.Cf9

