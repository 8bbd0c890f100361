/- slices.IndexFunc and slices.ContainsFunc, at each element type and closure of conf. slices.Equal, at each element type of conf; castellanref20.rows. -/
import Derived.Test.YtnmbbnhgoedjgaaGreatDoorQCf4
import Derived.Test.YtnmbbnhgoedjgaaGreatDoorQAd2
import Derived.Test.YtnmbbnhgoedjgaaGreatDoorQCgR
import Derived.Deep.DeepCutAuto
namespace Go.Proofs.YtnmbbnhgoedjgaaGreatDoor.Cf5
open Go Go.RowKit Go.Proofs.YtnmbbnhgoedjgaaGreatDoor.Cf4 Go.Proofs.YtnmbbnhgoedjgaaGreatDoor.Ad1
set_option linter.unusedVariables false
set_option linter.unusedSimpArgs false
/-- The first element that is so, as IndexFunc tells it. -/
def idxF {α : Type} (p : α → Bool) (l : List α) : Int := match l.findIdx? p with
  | some i => (i : Nat)
  | none => -1
theorem idx_hit {α : Type} (p : α → Bool) (l : List α) (k : Nat) (x : α) (hx : l[k]? = some x) (hp : p x = true) (hn : ∀ j y, j < k → l[j]? = some y → p y = false) : idxF p l = (k : Nat) := by
  have hk := (List.getElem?_eq_some_iff.1 hx).1
  have hxe := (List.getElem?_eq_some_iff.1 hx).2
  have : l.findIdx? p = some k := by
    rw [List.findIdx?_eq_some_iff_getElem]
    refine ⟨hk, by rw [hxe]; exact hp, fun j hj => ?_⟩
    have := hn j l[j] hj (List.getElem?_eq_getElem (by omega))
    simp [this]
  unfold idxF
  rw [this]
theorem idx_miss {α : Type} (p : α → Bool) (l : List α) (hn : ∀ j y, j < l.length → l[j]? = some y → p y = false) : idxF p l = -1 := by
  have : l.findIdx? p = none := by
    rw [List.findIdx?_eq_none_iff]
    intro x hx
    obtain ⟨j, hj, rfl⟩ := List.mem_iff_getElem.1 hx
    exact hn j _ hj (List.getElem?_eq_getElem hj)
  unfold idxF
  rw [this]
theorem idx_any {α : Type} (p : α → Bool) (l : List α) : decide (0 ≤ idxF p l) = l.any p := by
  unfold idxF
  cases h : l.findIdx? p with
  | none =>
    rw [List.findIdx?_eq_none_iff] at h
    have : l.any p = false := by
      rw [List.any_eq_false]
      intro x hx
      rw [h x hx]
      decide
    rw [this]
    rfl
  | some i =>
    rw [List.findIdx?_eq_some_iff_getElem] at h
    obtain ⟨hi, hp, -⟩ := h
    have : l.any p = true := List.any_eq_true.2 ⟨l[i], List.getElem_mem hi, hp⟩
    rw [this]
    simp
set_option maxHeartbeats 1000000 in
theorem idx_iface {α : Type} (f : α → List Value) (hk : ∀ x, (f x).length = 5) (p : α → Bool) (l : List α) (hn : l.length ≤ 4611686018427387904) (v : Value) (W : World) (h : Sl W v l.length (l.flatMap f)) (c : Value)
    (hF : ∀ x ∈ l, ∀ W', Below W.heap.size W W' → Calls Tryz.prog 58 #[.agg (f x).toArray, c] W' fun e w' => e = .returned (.bool (p x)) ∧ Below W'.heap.size W' w') :
    Calls Tryz.prog 57 #[v, .func (.func 58) #[] #[c]] W fun e w' => e = .returned (.int .i64 (idxF p l)) ∧ Below W.heap.size W w' := by
  have HS := Lib.hid h
  have HF := Lib.hid hF
  obtain ⟨A, cap, rfl, hcap, -⟩ := h
  clear hF
  go_enter Tryz.func57, Tryz.ntmps57
  go_wp2_with fail
  go_loopw [5, 8] (fun s5 s8 wr => ∃ k : Nat, k ≤ l.length ∧ s8 = .int .i64 k ∧ (∀ j y, j < k → l[j]? = some y → p y = false) ∧ Below W.heap.size W wr) (fun _ s8 _ => l.length - (intOf s8).toNat)
  case atStart => exact ⟨0, by omega, rfl, fun j y hj => absurd hj (by omega), Below.refl _ _⟩
  case round =>
    obtain ⟨k, hkl, rfl, hno, hb⟩ := hrel
    have HN := Lib.hid hno
    have HB := Lib.hid hb
    clear hno hb
    by_cases hlt : k < l.length
    · have hlt' : (k : Int) < l.length := by omega
      obtain ⟨x, hx⟩ : ∃ x, l[k]? = some x := ⟨_, List.getElem?_eq_getElem hlt⟩
      obtain ⟨b, o, cap', hv, -, hbl, hr⟩ := HS.out.at hk k x hx
      injection hv with e1 e2 e3
      subst e1 e3
      have hr' := range_below hr HB.out hbl
      have HR := Lib.hid hr'
      have HX := Lib.hid (HF.out x (List.mem_of_getElem? hx))
      have HI := Lib.hid (show (Tryz.prog.info? 45).map (·.size) = some (f x).length by rw [hk]; kernel_rfl)
      cases hp : p x with
      | true =>
        rw [hp] at HX
        have HH := Lib.hid (idx_hit p l k x hx hp HN.out)
        clear hr hr' hp
        go_wp2_with (first
          | ((with_reducible refine load_range b (o + k * 5) ?_ HR.out Tryz.underlying45 HI.out ?_ ?_); rfl; rfl)
          | (go_at_call 58; (with_reducible refine (HX.out _ HB.out).mono ?_); rintro e w1 ⟨rfl, hb1⟩; have HB := Lib.hid (bstep HB.out hb1 HB.out.size); clear hb1))
        go_ret
        exact ⟨by rw [HH.out]; rfl, HB.out⟩
      | false =>
        rw [hp] at HX
        have HM := Lib.hid (show ∀ j y, j < k + 1 → l[j]? = some y → p y = false from fun j y hj hy => by
          by_cases e : j = k
          · subst e; rw [hx] at hy; cases hy; exact hp
          · exact HN.out j y (by omega) hy)
        clear hr hr' hp
        go_wp2_with (first
          | ((with_reducible refine load_range b (o + k * 5) ?_ HR.out Tryz.underlying45 HI.out ?_ ?_); rfl; rfl)
          | (go_at_call 58; (with_reducible refine (HX.out _ HB.out).mono ?_); rintro e w1 ⟨rfl, hb1⟩; have HB := Lib.hid (bstep HB.out hb1 HB.out.size); clear hb1))
        go_roundw
        case rel => exact ⟨k + 1, by omega, by go_num, HM.out, HB.out⟩
        case measure => simp only [intOf]; go_num
    · obtain rfl : k = l.length := by omega
      go_wp2_with fail
      go_ret
      exact ⟨by rw [idx_miss p l HN.out]; rfl, HB.out⟩
set_option maxHeartbeats 1000000 in
theorem idx_ifaceIs {α : Type} (f : α → List Value) (hk : ∀ x, (f x).length = 5) (p : α → Bool) (l : List α) (hn : l.length ≤ 4611686018427387904) (v : Value) (W : World) (h : Sl W v l.length (l.flatMap f)) 
    (hF : ∀ x ∈ l, ∀ W', Below W.heap.size W W' → Calls Tryz.prog 40 #[.agg (f x).toArray] W' fun e w' => e = .returned (.bool (p x)) ∧ Below W'.heap.size W' w') :
    Calls Tryz.prog 57 #[v, .func (.func 40) #[] #[]] W fun e w' => e = .returned (.int .i64 (idxF p l)) ∧ Below W.heap.size W w' := by
  have HS := Lib.hid h
  have HF := Lib.hid hF
  obtain ⟨A, cap, rfl, hcap, -⟩ := h
  clear hF
  go_enter Tryz.func57, Tryz.ntmps57
  go_wp2_with fail
  go_loopw [5, 8] (fun s5 s8 wr => ∃ k : Nat, k ≤ l.length ∧ s8 = .int .i64 k ∧ (∀ j y, j < k → l[j]? = some y → p y = false) ∧ Below W.heap.size W wr) (fun _ s8 _ => l.length - (intOf s8).toNat)
  case atStart => exact ⟨0, by omega, rfl, fun j y hj => absurd hj (by omega), Below.refl _ _⟩
  case round =>
    obtain ⟨k, hkl, rfl, hno, hb⟩ := hrel
    have HN := Lib.hid hno
    have HB := Lib.hid hb
    clear hno hb
    by_cases hlt : k < l.length
    · have hlt' : (k : Int) < l.length := by omega
      obtain ⟨x, hx⟩ : ∃ x, l[k]? = some x := ⟨_, List.getElem?_eq_getElem hlt⟩
      obtain ⟨b, o, cap', hv, -, hbl, hr⟩ := HS.out.at hk k x hx
      injection hv with e1 e2 e3
      subst e1 e3
      have hr' := range_below hr HB.out hbl
      have HR := Lib.hid hr'
      have HX := Lib.hid (HF.out x (List.mem_of_getElem? hx))
      have HI := Lib.hid (show (Tryz.prog.info? 45).map (·.size) = some (f x).length by rw [hk]; kernel_rfl)
      cases hp : p x with
      | true =>
        rw [hp] at HX
        have HH := Lib.hid (idx_hit p l k x hx hp HN.out)
        clear hr hr' hp
        go_wp2_with (first
          | ((with_reducible refine load_range b (o + k * 5) ?_ HR.out Tryz.underlying45 HI.out ?_ ?_); rfl; rfl)
          | (go_at_call 40; (with_reducible refine (HX.out _ HB.out).mono ?_); rintro e w1 ⟨rfl, hb1⟩; have HB := Lib.hid (bstep HB.out hb1 HB.out.size); clear hb1))
        go_ret
        exact ⟨by rw [HH.out]; rfl, HB.out⟩
      | false =>
        rw [hp] at HX
        have HM := Lib.hid (show ∀ j y, j < k + 1 → l[j]? = some y → p y = false from fun j y hj hy => by
          by_cases e : j = k
          · subst e; rw [hx] at hy; cases hy; exact hp
          · exact HN.out j y (by omega) hy)
        clear hr hr' hp
        go_wp2_with (first
          | ((with_reducible refine load_range b (o + k * 5) ?_ HR.out Tryz.underlying45 HI.out ?_ ?_); rfl; rfl)
          | (go_at_call 40; (with_reducible refine (HX.out _ HB.out).mono ?_); rintro e w1 ⟨rfl, hb1⟩; have HB := Lib.hid (bstep HB.out hb1 HB.out.size); clear hb1))
        go_roundw
        case rel => exact ⟨k + 1, by omega, by go_num, HM.out, HB.out⟩
        case measure => simp only [intOf]; go_num
    · obtain rfl : k = l.length := by omega
      go_wp2_with fail
      go_ret
      exact ⟨by rw [idx_miss p l HN.out]; rfl, HB.out⟩
theorem has_ifaceIs {α : Type} (f : α → List Value) (hk : ∀ x, (f x).length = 5) (p : α → Bool) (l : List α) (hn : l.length ≤ 4611686018427387904) (v : Value) (W : World) (h : Sl W v l.length (l.flatMap f)) 
    (hF : ∀ x ∈ l, ∀ W', Below W.heap.size W W' → Calls Tryz.prog 40 #[.agg (f x).toArray] W' fun e w' => e = .returned (.bool (p x)) ∧ Below W'.heap.size W' w') :
    Calls Tryz.prog 39 #[v, .func (.func 40) #[] #[]] W fun e w' => e = .returned (.bool (l.any p)) ∧ Below W.heap.size W w' := by
  have HK := Lib.hid (idx_ifaceIs f hk p l hn v W h hF)
  rw [← idx_any]
  generalize idxF p l = i at HK ⊢
  obtain ⟨A, cap, rfl, hcap, -⟩ := h
  clear hF
  go_enter Tryz.func39, Tryz.ntmps39
  go_wp2_with (go_at_call 57; (with_reducible refine HK.out.mono ?_); rintro e w1 ⟨rfl, hb1⟩; have HB := Lib.hid hb1; clear hb1)
  go_ret
  exact ⟨rfl, HB.out⟩
set_option maxHeartbeats 1000000 in
theorem idx_namedIs {α : Type} (f : α → List Value) (hk : ∀ x, (f x).length = 2) (p : α → Bool) (l : List α) (hn : l.length ≤ 4611686018427387904) (v : Value) (W : World) (h : Sl W v l.length (l.flatMap f)) 
    (hF : ∀ x ∈ l, ∀ W', Below W.heap.size W W' → Calls Tryz.prog 43 #[.agg (f x).toArray] W' fun e w' => e = .returned (.bool (p x)) ∧ Below W'.heap.size W' w') :
    Calls Tryz.prog 90 #[v, .func (.func 43) #[] #[]] W fun e w' => e = .returned (.int .i64 (idxF p l)) ∧ Below W.heap.size W w' := by
  have HS := Lib.hid h
  have HF := Lib.hid hF
  obtain ⟨A, cap, rfl, hcap, -⟩ := h
  clear hF
  go_enter Tryz.func90, Tryz.ntmps90
  go_wp2_with fail
  go_loopw [5, 8] (fun s5 s8 wr => ∃ k : Nat, k ≤ l.length ∧ s8 = .int .i64 k ∧ (∀ j y, j < k → l[j]? = some y → p y = false) ∧ Below W.heap.size W wr) (fun _ s8 _ => l.length - (intOf s8).toNat)
  case atStart => exact ⟨0, by omega, rfl, fun j y hj => absurd hj (by omega), Below.refl _ _⟩
  case round =>
    obtain ⟨k, hkl, rfl, hno, hb⟩ := hrel
    have HN := Lib.hid hno
    have HB := Lib.hid hb
    clear hno hb
    by_cases hlt : k < l.length
    · have hlt' : (k : Int) < l.length := by omega
      obtain ⟨x, hx⟩ : ∃ x, l[k]? = some x := ⟨_, List.getElem?_eq_getElem hlt⟩
      obtain ⟨b, o, cap', hv, -, hbl, hr⟩ := HS.out.at hk k x hx
      injection hv with e1 e2 e3
      subst e1 e3
      have hr' := range_below hr HB.out hbl
      have HR := Lib.hid hr'
      have HX := Lib.hid (HF.out x (List.mem_of_getElem? hx))
      have HI := Lib.hid (show (Tryz.prog.info? 66).map (·.size) = some (f x).length by rw [hk]; kernel_rfl)
      cases hp : p x with
      | true =>
        rw [hp] at HX
        have HH := Lib.hid (idx_hit p l k x hx hp HN.out)
        clear hr hr' hp
        go_wp2_with (first
          | ((with_reducible refine load_range b (o + k * 2) ?_ HR.out Tryz.underlying66 HI.out ?_ ?_); rfl; rfl)
          | (go_at_call 43; (with_reducible refine (HX.out _ HB.out).mono ?_); rintro e w1 ⟨rfl, hb1⟩; have HB := Lib.hid (bstep HB.out hb1 HB.out.size); clear hb1))
        go_ret
        exact ⟨by rw [HH.out]; rfl, HB.out⟩
      | false =>
        rw [hp] at HX
        have HM := Lib.hid (show ∀ j y, j < k + 1 → l[j]? = some y → p y = false from fun j y hj hy => by
          by_cases e : j = k
          · subst e; rw [hx] at hy; cases hy; exact hp
          · exact HN.out j y (by omega) hy)
        clear hr hr' hp
        go_wp2_with (first
          | ((with_reducible refine load_range b (o + k * 2) ?_ HR.out Tryz.underlying66 HI.out ?_ ?_); rfl; rfl)
          | (go_at_call 43; (with_reducible refine (HX.out _ HB.out).mono ?_); rintro e w1 ⟨rfl, hb1⟩; have HB := Lib.hid (bstep HB.out hb1 HB.out.size); clear hb1))
        go_roundw
        case rel => exact ⟨k + 1, by omega, by go_num, HM.out, HB.out⟩
        case measure => simp only [intOf]; go_num
    · obtain rfl : k = l.length := by omega
      go_wp2_with fail
      go_ret
      exact ⟨by rw [idx_miss p l HN.out]; rfl, HB.out⟩
theorem has_namedIs {α : Type} (f : α → List Value) (hk : ∀ x, (f x).length = 2) (p : α → Bool) (l : List α) (hn : l.length ≤ 4611686018427387904) (v : Value) (W : World) (h : Sl W v l.length (l.flatMap f)) 
    (hF : ∀ x ∈ l, ∀ W', Below W.heap.size W W' → Calls Tryz.prog 43 #[.agg (f x).toArray] W' fun e w' => e = .returned (.bool (p x)) ∧ Below W'.heap.size W' w') :
    Calls Tryz.prog 42 #[v, .func (.func 43) #[] #[]] W fun e w' => e = .returned (.bool (l.any p)) ∧ Below W.heap.size W w' := by
  have HK := Lib.hid (idx_namedIs f hk p l hn v W h hF)
  rw [← idx_any]
  generalize idxF p l = i at HK ⊢
  obtain ⟨A, cap, rfl, hcap, -⟩ := h
  clear hF
  go_enter Tryz.func42, Tryz.ntmps42
  go_wp2_with (go_at_call 90; (with_reducible refine HK.out.mono ?_); rintro e w1 ⟨rfl, hb1⟩; have HB := Lib.hid hb1; clear hb1)
  go_ret
  exact ⟨rfl, HB.out⟩
set_option maxHeartbeats 1000000 in
theorem idx_named {α : Type} (f : α → List Value) (hk : ∀ x, (f x).length = 2) (p : α → Bool) (l : List α) (hn : l.length ≤ 4611686018427387904) (v : Value) (W : World) (h : Sl W v l.length (l.flatMap f)) (c : Value)
    (hF : ∀ x ∈ l, ∀ W', Below W.heap.size W W' → Calls Tryz.prog 81 #[.agg (f x).toArray, c] W' fun e w' => e = .returned (.bool (p x)) ∧ Below W'.heap.size W' w') :
    Calls Tryz.prog 90 #[v, .func (.func 81) #[] #[c]] W fun e w' => e = .returned (.int .i64 (idxF p l)) ∧ Below W.heap.size W w' := by
  have HS := Lib.hid h
  have HF := Lib.hid hF
  obtain ⟨A, cap, rfl, hcap, -⟩ := h
  clear hF
  go_enter Tryz.func90, Tryz.ntmps90
  go_wp2_with fail
  go_loopw [5, 8] (fun s5 s8 wr => ∃ k : Nat, k ≤ l.length ∧ s8 = .int .i64 k ∧ (∀ j y, j < k → l[j]? = some y → p y = false) ∧ Below W.heap.size W wr) (fun _ s8 _ => l.length - (intOf s8).toNat)
  case atStart => exact ⟨0, by omega, rfl, fun j y hj => absurd hj (by omega), Below.refl _ _⟩
  case round =>
    obtain ⟨k, hkl, rfl, hno, hb⟩ := hrel
    have HN := Lib.hid hno
    have HB := Lib.hid hb
    clear hno hb
    by_cases hlt : k < l.length
    · have hlt' : (k : Int) < l.length := by omega
      obtain ⟨x, hx⟩ : ∃ x, l[k]? = some x := ⟨_, List.getElem?_eq_getElem hlt⟩
      obtain ⟨b, o, cap', hv, -, hbl, hr⟩ := HS.out.at hk k x hx
      injection hv with e1 e2 e3
      subst e1 e3
      have hr' := range_below hr HB.out hbl
      have HR := Lib.hid hr'
      have HX := Lib.hid (HF.out x (List.mem_of_getElem? hx))
      have HI := Lib.hid (show (Tryz.prog.info? 66).map (·.size) = some (f x).length by rw [hk]; kernel_rfl)
      cases hp : p x with
      | true =>
        rw [hp] at HX
        have HH := Lib.hid (idx_hit p l k x hx hp HN.out)
        clear hr hr' hp
        go_wp2_with (first
          | ((with_reducible refine load_range b (o + k * 2) ?_ HR.out Tryz.underlying66 HI.out ?_ ?_); rfl; rfl)
          | (go_at_call 81; (with_reducible refine (HX.out _ HB.out).mono ?_); rintro e w1 ⟨rfl, hb1⟩; have HB := Lib.hid (bstep HB.out hb1 HB.out.size); clear hb1))
        go_ret
        exact ⟨by rw [HH.out]; rfl, HB.out⟩
      | false =>
        rw [hp] at HX
        have HM := Lib.hid (show ∀ j y, j < k + 1 → l[j]? = some y → p y = false from fun j y hj hy => by
          by_cases e : j = k
          · subst e; rw [hx] at hy; cases hy; exact hp
          · exact HN.out j y (by omega) hy)
        clear hr hr' hp
        go_wp2_with (first
          | ((with_reducible refine load_range b (o + k * 2) ?_ HR.out Tryz.underlying66 HI.out ?_ ?_); rfl; rfl)
          | (go_at_call 81; (with_reducible refine (HX.out _ HB.out).mono ?_); rintro e w1 ⟨rfl, hb1⟩; have HB := Lib.hid (bstep HB.out hb1 HB.out.size); clear hb1))
        go_roundw
        case rel => exact ⟨k + 1, by omega, by go_num, HM.out, HB.out⟩
        case measure => simp only [intOf]; go_num
    · obtain rfl : k = l.length := by omega
      go_wp2_with fail
      go_ret
      exact ⟨by rw [idx_miss p l HN.out]; rfl, HB.out⟩
theorem has_named {α : Type} (f : α → List Value) (hk : ∀ x, (f x).length = 2) (p : α → Bool) (l : List α) (hn : l.length ≤ 4611686018427387904) (v : Value) (W : World) (h : Sl W v l.length (l.flatMap f)) (c : Value)
    (hF : ∀ x ∈ l, ∀ W', Below W.heap.size W W' → Calls Tryz.prog 81 #[.agg (f x).toArray, c] W' fun e w' => e = .returned (.bool (p x)) ∧ Below W'.heap.size W' w') :
    Calls Tryz.prog 42 #[v, .func (.func 81) #[] #[c]] W fun e w' => e = .returned (.bool (l.any p)) ∧ Below W.heap.size W w' := by
  have HK := Lib.hid (idx_named f hk p l hn v W h c hF)
  rw [← idx_any]
  generalize idxF p l = i at HK ⊢
  obtain ⟨A, cap, rfl, hcap, -⟩ := h
  clear hF
  go_enter Tryz.func42, Tryz.ntmps42
  go_wp2_with (go_at_call 90; (with_reducible refine HK.out.mono ?_); rintro e w1 ⟨rfl, hb1⟩; have HB := Lib.hid hb1; clear hb1)
  go_ret
  exact ⟨rfl, HB.out⟩
set_option maxHeartbeats 1000000 in
theorem idx_ruleIs {α : Type} (f : α → List Value) (hk : ∀ x, (f x).length = 28) (p : α → Bool) (l : List α) (hn : l.length ≤ 4611686018427387904) (v : Value) (W : World) (h : Sl W v l.length (l.flatMap f)) 
    (hF : ∀ x ∈ l, ∀ W', Below W.heap.size W W' → Calls Tryz.prog 46 #[.agg (f x).toArray] W' fun e w' => e = .returned (.bool (p x)) ∧ Below W'.heap.size W' w') :
    Calls Tryz.prog 91 #[v, .func (.func 46) #[] #[]] W fun e w' => e = .returned (.int .i64 (idxF p l)) ∧ Below W.heap.size W w' := by
  have HS := Lib.hid h
  have HF := Lib.hid hF
  obtain ⟨A, cap, rfl, hcap, -⟩ := h
  clear hF
  go_enter Tryz.func91, Tryz.ntmps91
  go_wp2_with fail
  go_loopw [5, 8] (fun s5 s8 wr => ∃ k : Nat, k ≤ l.length ∧ s8 = .int .i64 k ∧ (∀ j y, j < k → l[j]? = some y → p y = false) ∧ Below W.heap.size W wr) (fun _ s8 _ => l.length - (intOf s8).toNat)
  case atStart => exact ⟨0, by omega, rfl, fun j y hj => absurd hj (by omega), Below.refl _ _⟩
  case round =>
    obtain ⟨k, hkl, rfl, hno, hb⟩ := hrel
    have HN := Lib.hid hno
    have HB := Lib.hid hb
    clear hno hb
    by_cases hlt : k < l.length
    · have hlt' : (k : Int) < l.length := by omega
      obtain ⟨x, hx⟩ : ∃ x, l[k]? = some x := ⟨_, List.getElem?_eq_getElem hlt⟩
      obtain ⟨b, o, cap', hv, -, hbl, hr⟩ := HS.out.at hk k x hx
      injection hv with e1 e2 e3
      subst e1 e3
      have hr' := range_below hr HB.out hbl
      have HR := Lib.hid hr'
      have HX := Lib.hid (HF.out x (List.mem_of_getElem? hx))
      have HI := Lib.hid (show (Tryz.prog.info? 75).map (·.size) = some (f x).length by rw [hk]; kernel_rfl)
      cases hp : p x with
      | true =>
        rw [hp] at HX
        have HH := Lib.hid (idx_hit p l k x hx hp HN.out)
        clear hr hr' hp
        go_wp2_with (first
          | ((with_reducible refine load_range b (o + k * 28) ?_ HR.out Tryz.underlying75 HI.out ?_ ?_); rfl; rfl)
          | (go_at_call 46; (with_reducible refine (HX.out _ HB.out).mono ?_); rintro e w1 ⟨rfl, hb1⟩; have HB := Lib.hid (bstep HB.out hb1 HB.out.size); clear hb1))
        go_ret
        exact ⟨by rw [HH.out]; rfl, HB.out⟩
      | false =>
        rw [hp] at HX
        have HM := Lib.hid (show ∀ j y, j < k + 1 → l[j]? = some y → p y = false from fun j y hj hy => by
          by_cases e : j = k
          · subst e; rw [hx] at hy; cases hy; exact hp
          · exact HN.out j y (by omega) hy)
        clear hr hr' hp
        go_wp2_with (first
          | ((with_reducible refine load_range b (o + k * 28) ?_ HR.out Tryz.underlying75 HI.out ?_ ?_); rfl; rfl)
          | (go_at_call 46; (with_reducible refine (HX.out _ HB.out).mono ?_); rintro e w1 ⟨rfl, hb1⟩; have HB := Lib.hid (bstep HB.out hb1 HB.out.size); clear hb1))
        go_roundw
        case rel => exact ⟨k + 1, by omega, by go_num, HM.out, HB.out⟩
        case measure => simp only [intOf]; go_num
    · obtain rfl : k = l.length := by omega
      go_wp2_with fail
      go_ret
      exact ⟨by rw [idx_miss p l HN.out]; rfl, HB.out⟩
theorem has_ruleIs {α : Type} (f : α → List Value) (hk : ∀ x, (f x).length = 28) (p : α → Bool) (l : List α) (hn : l.length ≤ 4611686018427387904) (v : Value) (W : World) (h : Sl W v l.length (l.flatMap f)) 
    (hF : ∀ x ∈ l, ∀ W', Below W.heap.size W W' → Calls Tryz.prog 46 #[.agg (f x).toArray] W' fun e w' => e = .returned (.bool (p x)) ∧ Below W'.heap.size W' w') :
    Calls Tryz.prog 45 #[v, .func (.func 46) #[] #[]] W fun e w' => e = .returned (.bool (l.any p)) ∧ Below W.heap.size W w' := by
  have HK := Lib.hid (idx_ruleIs f hk p l hn v W h hF)
  rw [← idx_any]
  generalize idxF p l = i at HK ⊢
  obtain ⟨A, cap, rfl, hcap, -⟩ := h
  clear hF
  go_enter Tryz.func45, Tryz.ntmps45
  go_wp2_with (go_at_call 91; (with_reducible refine HK.out.mono ?_); rintro e w1 ⟨rfl, hb1⟩; have HB := Lib.hid hb1; clear hb1)
  go_ret
  exact ⟨rfl, HB.out⟩
set_option maxHeartbeats 1000000 in
theorem idx_pfxIs {α : Type} (f : α → List Value) (hk : ∀ x, (f x).length = 2) (p : α → Bool) (l : List α) (hn : l.length ≤ 4611686018427387904) (v : Value) (W : World) (h : Sl W v l.length (l.flatMap f)) 
    (hF : ∀ x ∈ l, ∀ W', Below W.heap.size W W' → Calls Tryz.prog 87 #[.agg (f x).toArray] W' fun e w' => e = .returned (.bool (p x)) ∧ Below W'.heap.size W' w') :
    Calls Tryz.prog 136 #[v, .func (.func 87) #[] #[]] W fun e w' => e = .returned (.int .i64 (idxF p l)) ∧ Below W.heap.size W w' := by
  have HS := Lib.hid h
  have HF := Lib.hid hF
  obtain ⟨A, cap, rfl, hcap, -⟩ := h
  clear hF
  go_enter Tryz.func136, Tryz.ntmps136
  go_wp2_with fail
  go_loopw [5, 8] (fun s5 s8 wr => ∃ k : Nat, k ≤ l.length ∧ s8 = .int .i64 k ∧ (∀ j y, j < k → l[j]? = some y → p y = false) ∧ Below W.heap.size W wr) (fun _ s8 _ => l.length - (intOf s8).toNat)
  case atStart => exact ⟨0, by omega, rfl, fun j y hj => absurd hj (by omega), Below.refl _ _⟩
  case round =>
    obtain ⟨k, hkl, rfl, hno, hb⟩ := hrel
    have HN := Lib.hid hno
    have HB := Lib.hid hb
    clear hno hb
    by_cases hlt : k < l.length
    · have hlt' : (k : Int) < l.length := by omega
      obtain ⟨x, hx⟩ : ∃ x, l[k]? = some x := ⟨_, List.getElem?_eq_getElem hlt⟩
      obtain ⟨b, o, cap', hv, -, hbl, hr⟩ := HS.out.at hk k x hx
      injection hv with e1 e2 e3
      subst e1 e3
      have hr' := range_below hr HB.out hbl
      have HR := Lib.hid hr'
      have HX := Lib.hid (HF.out x (List.mem_of_getElem? hx))
      have HI := Lib.hid (show (Tryz.prog.info? 43).map (·.size) = some (f x).length by rw [hk]; kernel_rfl)
      cases hp : p x with
      | true =>
        rw [hp] at HX
        have HH := Lib.hid (idx_hit p l k x hx hp HN.out)
        clear hr hr' hp
        go_wp2_with (first
          | ((with_reducible refine load_range b (o + k * 2) ?_ HR.out Tryz.underlying43 HI.out ?_ ?_); rfl; rfl)
          | (go_at_call 87; (with_reducible refine (HX.out _ HB.out).mono ?_); rintro e w1 ⟨rfl, hb1⟩; have HB := Lib.hid (bstep HB.out hb1 HB.out.size); clear hb1))
        go_ret
        exact ⟨by rw [HH.out]; rfl, HB.out⟩
      | false =>
        rw [hp] at HX
        have HM := Lib.hid (show ∀ j y, j < k + 1 → l[j]? = some y → p y = false from fun j y hj hy => by
          by_cases e : j = k
          · subst e; rw [hx] at hy; cases hy; exact hp
          · exact HN.out j y (by omega) hy)
        clear hr hr' hp
        go_wp2_with (first
          | ((with_reducible refine load_range b (o + k * 2) ?_ HR.out Tryz.underlying43 HI.out ?_ ?_); rfl; rfl)
          | (go_at_call 87; (with_reducible refine (HX.out _ HB.out).mono ?_); rintro e w1 ⟨rfl, hb1⟩; have HB := Lib.hid (bstep HB.out hb1 HB.out.size); clear hb1))
        go_roundw
        case rel => exact ⟨k + 1, by omega, by go_num, HM.out, HB.out⟩
        case measure => simp only [intOf]; go_num
    · obtain rfl : k = l.length := by omega
      go_wp2_with fail
      go_ret
      exact ⟨by rw [idx_miss p l HN.out]; rfl, HB.out⟩
theorem has_pfxIs {α : Type} (f : α → List Value) (hk : ∀ x, (f x).length = 2) (p : α → Bool) (l : List α) (hn : l.length ≤ 4611686018427387904) (v : Value) (W : World) (h : Sl W v l.length (l.flatMap f)) 
    (hF : ∀ x ∈ l, ∀ W', Below W.heap.size W W' → Calls Tryz.prog 87 #[.agg (f x).toArray] W' fun e w' => e = .returned (.bool (p x)) ∧ Below W'.heap.size W' w') :
    Calls Tryz.prog 86 #[v, .func (.func 87) #[] #[]] W fun e w' => e = .returned (.bool (l.any p)) ∧ Below W.heap.size W w' := by
  have HK := Lib.hid (idx_pfxIs f hk p l hn v W h hF)
  rw [← idx_any]
  generalize idxF p l = i at HK ⊢
  obtain ⟨A, cap, rfl, hcap, -⟩ := h
  clear hF
  go_enter Tryz.func86, Tryz.ntmps86
  go_wp2_with (go_at_call 136; (with_reducible refine HK.out.mono ?_); rintro e w1 ⟨rfl, hb1⟩; have HB := Lib.hid hb1; clear hb1)
  go_ret
  exact ⟨rfl, HB.out⟩
end Go.Proofs.YtnmbbnhgoedjgaaGreatDoor.Cf5

namespace Go.Proofs.YtnmbbnhgoedjgaaGreatDoor.Cg4
open Go Go.RowKit Go.Proofs.YtnmbbnhgoedjgaaGreatDoor.Cf4 Go.Proofs.YtnmbbnhgoedjgaaGreatDoor.CgQ Go.Proofs.YtnmbbnhgoedjgaaGreatDoor.Ad0 Go.Proofs.YtnmbbnhgoedjgaaGreatDoor.Ad1
set_option linter.unusedVariables false
set_option linter.unusedSimpArgs false
theorem same_at {α : Type} (l m : List α) (hl : l.length = m.length) (h : ∀ j, j < l.length → l[j]? = m[j]?) : l = m := by
  apply List.ext_getElem? 
  intro j
  by_cases hj : j < l.length
  · exact h j hj
  · rw [List.getElem?_eq_none (by omega), List.getElem?_eq_none (by omega)]
/-- Two elements, each where it lies. -/
structure Two (W : World) (b o b' o' : Nat) (cs cs' : List Value) (w : World) : Prop where
  one : w.rangeAt b o cs
  two : w.rangeAt b' o' cs'
  low : Below W.heap.size W w
set_option maxHeartbeats 1000000 in
theorem eql_iface {α : Type} [DecidableEq α] (f : α → List Value) (hk : ∀ x, (f x).length = 5) (heq : ∀ x y W, (binOp .neq 45 (.agg (f x).toArray) (.agg (f y).toArray)).run Tryz.prog W = .ok (.bool (!decide (x = y))) W) (l m : List α) (hn : l.length ≤ 4611686018427387904) (hm : m.length ≤ 4611686018427387904) (u v : Value) (W : World) (hu : Sl W u l.length (l.flatMap f)) (hv : Sl W v m.length (m.flatMap f)) :
    Calls Tryz.prog 52 #[u, v] W fun e w' => e = .returned (.bool (decide (l = m))) ∧ Below W.heap.size W w' := by
  have HU := Lib.hid hu
  have HV := Lib.hid hv
  have HE := Lib.hid heq
  obtain ⟨A, cap, rfl, hcap, -⟩ := hu
  obtain ⟨A', cap', rfl, hcap', -⟩ := hv
  clear heq
  by_cases hl : l.length = m.length
  rotate_left
  · have hl' : ¬ (l.length : Int) = m.length := by omega
    have HD := Lib.hid (show decide (l = m) = false by simp only [decide_eq_false_iff_not]; intro h; exact hl (by rw [h]))
    go_enter Tryz.func52, Tryz.ntmps52
    go_wp2_with fail
    go_ret
    exact ⟨by rw [HD.out]; rfl, Below.refl _ _⟩
  have KV := Lib.hid (fun k y (hy : m[k]? = some y) => HV.out.at hk k y hy)
  have HL := Lib.hid hl
  clear HV hm
  generalize hmn : m.length = mn at *
  subst hl
  go_enter Tryz.func52, Tryz.ntmps52
  go_wp2_with fail
  go_loopw [5, 13] (fun s5 s13 wr => ∃ k : Nat, k ≤ l.length ∧ s13 = .int .i64 k ∧ (∀ j, j < k → l[j]? = m[j]?) ∧ Below W.heap.size W wr) (fun s5 s13 _ => l.length - (intOf s13).toNat)
  case atStart => exact ⟨0, by omega, rfl, fun j hj => absurd hj (by omega), Below.refl _ _⟩
  case round =>
    obtain ⟨k, hkl, rfl, hno, hb⟩ := hrel
    have HN := Lib.hid hno
    have HB := Lib.hid hb
    clear hno hb
    by_cases hlt : k < l.length
    · have hlt' : (k : Int) < l.length := by omega
      obtain ⟨x, hx⟩ : ∃ x, l[k]? = some x := ⟨_, List.getElem?_eq_getElem hlt⟩
      obtain ⟨y, hy⟩ : ∃ y, m[k]? = some y := ⟨_, List.getElem?_eq_getElem (by omega)⟩
      obtain ⟨b, o, c1, hv1, -, hbl, hr⟩ := HU.out.at hk k x hx
      obtain ⟨b', o', c2, hv2, -, hbl', hr'⟩ := KV.out k y hy
      injection hv1 with e1 e2 e3
      subst e1 e3
      injection hv2 with e1 e2 e3
      subst e1 e3
      have HT := Lib.hid (Two.mk (W := W) (b := b) (o := o + k * 5) (b' := b') (o' := o' + k * 5) (cs := f x) (cs' := f y) (range_below hr HB.out.drew hbl) (range_below hr' HB.out.drew hbl') HB.out.drew)
      have HI := Lib.hid (show (Tryz.prog.info? 45).map (·.size) = some (f x).length by rw [hk]; kernel_rfl)
      have HJ := Lib.hid (show (Tryz.prog.info? 45).map (·.size) = some (f y).length by rw [hk]; kernel_rfl)
      have hxy := HE.out x y
      have HM : Hid (x = y → ∀ j, j < k + 1 → l[j]? = m[j]?) := fun e j hj => by
        by_cases ej : j = k
        · subst ej; rw [hx, hy, e]
        · exact HN.out j (by omega)
      have HF : Hid (x ≠ y → decide (l = m) = false) := fun e => by
        simp only [decide_eq_false_iff_not]
        intro h
        rw [h, hy] at hx
        exact e (Option.some.inj hx).symm
      clear hr hr' hk
      generalize f x = fx at *
      generalize f y = fy at *
      cases hd : decide (x = y) with
      | true =>
        have hM := Lib.hid (HM.out (of_decide_eq_true hd))
        rw [hd] at hxy
        go_wp2_with fail
        refine region_in (Two W b (o + k * 5) b' (o' + k * 5) fx fy) (by kernel_rfl) (by kernel_rfl) HT.out ?_
        repeat (first
          | go_big_quiet_skip
          | (go_big_quiet_want; first
            | ((with_reducible refine load_in b (o + k * 5) ?_ (fun p => p.property.one) Tryz.underlying45 HI.out ?_); rfl; simp only [Act.put, List.setIfInBounds_toArray, List.set_cons_zero, List.set_cons_succ]; go_big_quiet_on)
            | ((with_reducible refine load_in b' (o' + k * 5) ?_ (fun p => p.property.two) Tryz.underlying45 HJ.out ?_); rfl; simp only [Act.put, List.setIfInBounds_toArray, List.set_cons_zero, List.set_cons_succ]; go_big_quiet_on)
            | (go_big_quiet_op; first | go_big_quiet_on | ((refine ⟨_, fun _ _ => rfl, ?_⟩); go_big_quiet_on))))
        refine wpQuiet_nil ?_
        rintro _ ⟨⟨w2, h2⟩, rfl⟩
        have HB2 := Lib.hid h2.low
        clear h2
        go_wp2_with fail
        go_roundw
        case rel => exact ⟨k + 1, by omega, by go_num, hM.out, HB2.out⟩
        case measure => simp only [intOf]; go_num
      | false =>
        have hF := Lib.hid (HF.out (of_decide_eq_false hd))
        rw [hd] at hxy
        go_wp2_with fail
        refine region_in (Two W b (o + k * 5) b' (o' + k * 5) fx fy) (by kernel_rfl) (by kernel_rfl) HT.out ?_
        repeat (first
          | go_big_quiet_skip
          | (go_big_quiet_want; first
            | ((with_reducible refine load_in b (o + k * 5) ?_ (fun p => p.property.one) Tryz.underlying45 HI.out ?_); rfl; simp only [Act.put, List.setIfInBounds_toArray, List.set_cons_zero, List.set_cons_succ]; go_big_quiet_on)
            | ((with_reducible refine load_in b' (o' + k * 5) ?_ (fun p => p.property.two) Tryz.underlying45 HJ.out ?_); rfl; simp only [Act.put, List.setIfInBounds_toArray, List.set_cons_zero, List.set_cons_succ]; go_big_quiet_on)
            | (go_big_quiet_op; first | go_big_quiet_on | ((refine ⟨_, fun _ _ => rfl, ?_⟩); go_big_quiet_on))))
        refine wpQuiet_nil ?_
        rintro _ ⟨⟨w2, h2⟩, rfl⟩
        have HB2 := Lib.hid h2.low
        clear h2
        go_wp2_with fail
        go_ret
        exact ⟨by rw [hF.out]; rfl, HB2.out⟩
    · obtain rfl : k = l.length := by omega
      have HD := Lib.hid (show decide (l = m) = true by simp only [decide_eq_true_eq]; exact same_at l m hmn.symm HN.out)
      go_wp2_with fail
      go_ret
      exact ⟨by rw [HD.out]; rfl, HB.out⟩
set_option maxHeartbeats 1000000 in
theorem eql_pfx {α : Type} [DecidableEq α] (f : α → List Value) (hk : ∀ x, (f x).length = 2) (heq : ∀ x y W, (binOp .neq 43 (.agg (f x).toArray) (.agg (f y).toArray)).run Tryz.prog W = .ok (.bool (!decide (x = y))) W) (l m : List α) (hn : l.length ≤ 4611686018427387904) (hm : m.length ≤ 4611686018427387904) (u v : Value) (W : World) (hu : Sl W u l.length (l.flatMap f)) (hv : Sl W v m.length (m.flatMap f)) :
    Calls Tryz.prog 53 #[u, v] W fun e w' => e = .returned (.bool (decide (l = m))) ∧ Below W.heap.size W w' := by
  have HU := Lib.hid hu
  have HV := Lib.hid hv
  have HE := Lib.hid heq
  obtain ⟨A, cap, rfl, hcap, -⟩ := hu
  obtain ⟨A', cap', rfl, hcap', -⟩ := hv
  clear heq
  by_cases hl : l.length = m.length
  rotate_left
  · have hl' : ¬ (l.length : Int) = m.length := by omega
    have HD := Lib.hid (show decide (l = m) = false by simp only [decide_eq_false_iff_not]; intro h; exact hl (by rw [h]))
    go_enter Tryz.func53, Tryz.ntmps53
    go_wp2_with fail
    go_ret
    exact ⟨by rw [HD.out]; rfl, Below.refl _ _⟩
  have KV := Lib.hid (fun k y (hy : m[k]? = some y) => HV.out.at hk k y hy)
  have HL := Lib.hid hl
  clear HV hm
  generalize hmn : m.length = mn at *
  subst hl
  go_enter Tryz.func53, Tryz.ntmps53
  go_wp2_with fail
  go_loopw [5, 13] (fun s5 s13 wr => ∃ k : Nat, k ≤ l.length ∧ s13 = .int .i64 k ∧ (∀ j, j < k → l[j]? = m[j]?) ∧ Below W.heap.size W wr) (fun s5 s13 _ => l.length - (intOf s13).toNat)
  case atStart => exact ⟨0, by omega, rfl, fun j hj => absurd hj (by omega), Below.refl _ _⟩
  case round =>
    obtain ⟨k, hkl, rfl, hno, hb⟩ := hrel
    have HN := Lib.hid hno
    have HB := Lib.hid hb
    clear hno hb
    by_cases hlt : k < l.length
    · have hlt' : (k : Int) < l.length := by omega
      obtain ⟨x, hx⟩ : ∃ x, l[k]? = some x := ⟨_, List.getElem?_eq_getElem hlt⟩
      obtain ⟨y, hy⟩ : ∃ y, m[k]? = some y := ⟨_, List.getElem?_eq_getElem (by omega)⟩
      obtain ⟨b, o, c1, hv1, -, hbl, hr⟩ := HU.out.at hk k x hx
      obtain ⟨b', o', c2, hv2, -, hbl', hr'⟩ := KV.out k y hy
      injection hv1 with e1 e2 e3
      subst e1 e3
      injection hv2 with e1 e2 e3
      subst e1 e3
      have HT := Lib.hid (Two.mk (W := W) (b := b) (o := o + k * 2) (b' := b') (o' := o' + k * 2) (cs := f x) (cs' := f y) (range_below hr HB.out.drew hbl) (range_below hr' HB.out.drew hbl') HB.out.drew)
      have HI := Lib.hid (show (Tryz.prog.info? 43).map (·.size) = some (f x).length by rw [hk]; kernel_rfl)
      have HJ := Lib.hid (show (Tryz.prog.info? 43).map (·.size) = some (f y).length by rw [hk]; kernel_rfl)
      have hxy := HE.out x y
      have HM : Hid (x = y → ∀ j, j < k + 1 → l[j]? = m[j]?) := fun e j hj => by
        by_cases ej : j = k
        · subst ej; rw [hx, hy, e]
        · exact HN.out j (by omega)
      have HF : Hid (x ≠ y → decide (l = m) = false) := fun e => by
        simp only [decide_eq_false_iff_not]
        intro h
        rw [h, hy] at hx
        exact e (Option.some.inj hx).symm
      clear hr hr' hk
      generalize f x = fx at *
      generalize f y = fy at *
      cases hd : decide (x = y) with
      | true =>
        have hM := Lib.hid (HM.out (of_decide_eq_true hd))
        rw [hd] at hxy
        go_wp2_with fail
        refine region_in (Two W b (o + k * 2) b' (o' + k * 2) fx fy) (by kernel_rfl) (by kernel_rfl) HT.out ?_
        repeat (first
          | go_big_quiet_skip
          | (go_big_quiet_want; first
            | ((with_reducible refine load_in b (o + k * 2) ?_ (fun p => p.property.one) Tryz.underlying43 HI.out ?_); rfl; simp only [Act.put, List.setIfInBounds_toArray, List.set_cons_zero, List.set_cons_succ]; go_big_quiet_on)
            | ((with_reducible refine load_in b' (o' + k * 2) ?_ (fun p => p.property.two) Tryz.underlying43 HJ.out ?_); rfl; simp only [Act.put, List.setIfInBounds_toArray, List.set_cons_zero, List.set_cons_succ]; go_big_quiet_on)
            | (go_big_quiet_op; first | go_big_quiet_on | ((refine ⟨_, fun _ _ => rfl, ?_⟩); go_big_quiet_on))))
        refine wpQuiet_nil ?_
        rintro _ ⟨⟨w2, h2⟩, rfl⟩
        have HB2 := Lib.hid h2.low
        clear h2
        go_wp2_with fail
        go_roundw
        case rel => exact ⟨k + 1, by omega, by go_num, hM.out, HB2.out⟩
        case measure => simp only [intOf]; go_num
      | false =>
        have hF := Lib.hid (HF.out (of_decide_eq_false hd))
        rw [hd] at hxy
        go_wp2_with fail
        refine region_in (Two W b (o + k * 2) b' (o' + k * 2) fx fy) (by kernel_rfl) (by kernel_rfl) HT.out ?_
        repeat (first
          | go_big_quiet_skip
          | (go_big_quiet_want; first
            | ((with_reducible refine load_in b (o + k * 2) ?_ (fun p => p.property.one) Tryz.underlying43 HI.out ?_); rfl; simp only [Act.put, List.setIfInBounds_toArray, List.set_cons_zero, List.set_cons_succ]; go_big_quiet_on)
            | ((with_reducible refine load_in b' (o' + k * 2) ?_ (fun p => p.property.two) Tryz.underlying43 HJ.out ?_); rfl; simp only [Act.put, List.setIfInBounds_toArray, List.set_cons_zero, List.set_cons_succ]; go_big_quiet_on)
            | (go_big_quiet_op; first | go_big_quiet_on | ((refine ⟨_, fun _ _ => rfl, ?_⟩); go_big_quiet_on))))
        refine wpQuiet_nil ?_
        rintro _ ⟨⟨w2, h2⟩, rfl⟩
        have HB2 := Lib.hid h2.low
        clear h2
        go_wp2_with fail
        go_ret
        exact ⟨by rw [hF.out]; rfl, HB2.out⟩
    · obtain rfl : k = l.length := by omega
      have HD := Lib.hid (show decide (l = m) = true by simp only [decide_eq_true_eq]; exact same_at l m hmn.symm HN.out)
      go_wp2_with fail
      go_ret
      exact ⟨by rw [HD.out]; rfl, HB.out⟩
set_option maxHeartbeats 1000000 in
theorem eql_rule {α : Type} [DecidableEq α] (f : α → List Value) (hk : ∀ x, (f x).length = 28) (heq : ∀ x y W, (binOp .neq 75 (.agg (f x).toArray) (.agg (f y).toArray)).run Tryz.prog W = .ok (.bool (!decide (x = y))) W) (l m : List α) (hn : l.length ≤ 4611686018427387904) (hm : m.length ≤ 4611686018427387904) (u v : Value) (W : World) (hu : Sl W u l.length (l.flatMap f)) (hv : Sl W v m.length (m.flatMap f)) :
    Calls Tryz.prog 54 #[u, v] W fun e w' => e = .returned (.bool (decide (l = m))) ∧ Below W.heap.size W w' := by
  have HU := Lib.hid hu
  have HV := Lib.hid hv
  have HE := Lib.hid heq
  obtain ⟨A, cap, rfl, hcap, -⟩ := hu
  obtain ⟨A', cap', rfl, hcap', -⟩ := hv
  clear heq
  by_cases hl : l.length = m.length
  rotate_left
  · have hl' : ¬ (l.length : Int) = m.length := by omega
    have HD := Lib.hid (show decide (l = m) = false by simp only [decide_eq_false_iff_not]; intro h; exact hl (by rw [h]))
    go_enter Tryz.func54, Tryz.ntmps54
    go_wp2_with fail
    go_ret
    exact ⟨by rw [HD.out]; rfl, Below.refl _ _⟩
  have KV := Lib.hid (fun k y (hy : m[k]? = some y) => HV.out.at hk k y hy)
  have HL := Lib.hid hl
  clear HV hm
  generalize hmn : m.length = mn at *
  subst hl
  go_enter Tryz.func54, Tryz.ntmps54
  go_wp2_with fail
  go_loopw [5, 13] (fun s5 s13 wr => ∃ k : Nat, k ≤ l.length ∧ s13 = .int .i64 k ∧ (∀ j, j < k → l[j]? = m[j]?) ∧ Below W.heap.size W wr) (fun s5 s13 _ => l.length - (intOf s13).toNat)
  case atStart => exact ⟨0, by omega, rfl, fun j hj => absurd hj (by omega), Below.refl _ _⟩
  case round =>
    obtain ⟨k, hkl, rfl, hno, hb⟩ := hrel
    have HN := Lib.hid hno
    have HB := Lib.hid hb
    clear hno hb
    by_cases hlt : k < l.length
    · have hlt' : (k : Int) < l.length := by omega
      obtain ⟨x, hx⟩ : ∃ x, l[k]? = some x := ⟨_, List.getElem?_eq_getElem hlt⟩
      obtain ⟨y, hy⟩ : ∃ y, m[k]? = some y := ⟨_, List.getElem?_eq_getElem (by omega)⟩
      obtain ⟨b, o, c1, hv1, -, hbl, hr⟩ := HU.out.at hk k x hx
      obtain ⟨b', o', c2, hv2, -, hbl', hr'⟩ := KV.out k y hy
      injection hv1 with e1 e2 e3
      subst e1 e3
      injection hv2 with e1 e2 e3
      subst e1 e3
      have HT := Lib.hid (Two.mk (W := W) (b := b) (o := o + k * 28) (b' := b') (o' := o' + k * 28) (cs := f x) (cs' := f y) (range_below hr HB.out.drew hbl) (range_below hr' HB.out.drew hbl') HB.out.drew)
      have HI := Lib.hid (show (Tryz.prog.info? 75).map (·.size) = some (f x).length by rw [hk]; kernel_rfl)
      have HJ := Lib.hid (show (Tryz.prog.info? 75).map (·.size) = some (f y).length by rw [hk]; kernel_rfl)
      have hxy := HE.out x y
      have HM : Hid (x = y → ∀ j, j < k + 1 → l[j]? = m[j]?) := fun e j hj => by
        by_cases ej : j = k
        · subst ej; rw [hx, hy, e]
        · exact HN.out j (by omega)
      have HF : Hid (x ≠ y → decide (l = m) = false) := fun e => by
        simp only [decide_eq_false_iff_not]
        intro h
        rw [h, hy] at hx
        exact e (Option.some.inj hx).symm
      clear hr hr' hk
      generalize f x = fx at *
      generalize f y = fy at *
      cases hd : decide (x = y) with
      | true =>
        have hM := Lib.hid (HM.out (of_decide_eq_true hd))
        rw [hd] at hxy
        go_wp2_with fail
        refine region_in (Two W b (o + k * 28) b' (o' + k * 28) fx fy) (by kernel_rfl) (by kernel_rfl) HT.out ?_
        repeat (first
          | go_big_quiet_skip
          | (go_big_quiet_want; first
            | ((with_reducible refine load_in b (o + k * 28) ?_ (fun p => p.property.one) Tryz.underlying75 HI.out ?_); rfl; simp only [Act.put, List.setIfInBounds_toArray, List.set_cons_zero, List.set_cons_succ]; go_big_quiet_on)
            | ((with_reducible refine load_in b' (o' + k * 28) ?_ (fun p => p.property.two) Tryz.underlying75 HJ.out ?_); rfl; simp only [Act.put, List.setIfInBounds_toArray, List.set_cons_zero, List.set_cons_succ]; go_big_quiet_on)
            | (go_big_quiet_op; first | go_big_quiet_on | ((refine ⟨_, fun _ _ => rfl, ?_⟩); go_big_quiet_on))))
        refine wpQuiet_nil ?_
        rintro _ ⟨⟨w2, h2⟩, rfl⟩
        have HB2 := Lib.hid h2.low
        clear h2
        go_wp2_with fail
        go_roundw
        case rel => exact ⟨k + 1, by omega, by go_num, hM.out, HB2.out⟩
        case measure => simp only [intOf]; go_num
      | false =>
        have hF := Lib.hid (HF.out (of_decide_eq_false hd))
        rw [hd] at hxy
        go_wp2_with fail
        refine region_in (Two W b (o + k * 28) b' (o' + k * 28) fx fy) (by kernel_rfl) (by kernel_rfl) HT.out ?_
        repeat (first
          | go_big_quiet_skip
          | (go_big_quiet_want; first
            | ((with_reducible refine load_in b (o + k * 28) ?_ (fun p => p.property.one) Tryz.underlying75 HI.out ?_); rfl; simp only [Act.put, List.setIfInBounds_toArray, List.set_cons_zero, List.set_cons_succ]; go_big_quiet_on)
            | ((with_reducible refine load_in b' (o' + k * 28) ?_ (fun p => p.property.two) Tryz.underlying75 HJ.out ?_); rfl; simp only [Act.put, List.setIfInBounds_toArray, List.set_cons_zero, List.set_cons_succ]; go_big_quiet_on)
            | (go_big_quiet_op; first | go_big_quiet_on | ((refine ⟨_, fun _ _ => rfl, ?_⟩); go_big_quiet_on))))
        refine wpQuiet_nil ?_
        rintro _ ⟨⟨w2, h2⟩, rfl⟩
        have HB2 := Lib.hid h2.low
        clear h2
        go_wp2_with fail
        go_ret
        exact ⟨by rw [hF.out]; rfl, HB2.out⟩
    · obtain rfl : k = l.length := by omega
      have HD := Lib.hid (show decide (l = m) = true by simp only [decide_eq_true_eq]; exact same_at l m hmn.symm HN.out)
      go_wp2_with fail
      go_ret
      exact ⟨by rw [HD.out]; rfl, HB.out⟩
set_option maxHeartbeats 1000000 in
theorem eql_rows {α : Type} [DecidableEq α] (f : α → List Value) (hk : ∀ x, (f x).length = 2) (heq : ∀ x y W, (binOp .neq 43 (.agg (f x).toArray) (.agg (f y).toArray)).run Tryz.prog W = .ok (.bool (!decide (x = y))) W) (l m : List α) (hn : l.length ≤ 4611686018427387904) (hm : m.length ≤ 4611686018427387904) (u v : Value) (W : World) (hu : Sl W u l.length (l.flatMap f)) (hv : Sl W v m.length (m.flatMap f)) :
    Calls Tryz.prog 31 #[u, v] W fun e w' => e = .returned (.bool (decide (l = m))) ∧ Below W.heap.size W w' := by
  have HU := Lib.hid hu
  have HV := Lib.hid hv
  have HE := Lib.hid heq
  obtain ⟨A, cap, rfl, hcap, -⟩ := hu
  obtain ⟨A', cap', rfl, hcap', -⟩ := hv
  clear heq
  by_cases hl : l.length = m.length
  rotate_left
  · have hl' : ¬ (l.length : Int) = m.length := by omega
    have HD := Lib.hid (show decide (l = m) = false by simp only [decide_eq_false_iff_not]; intro h; exact hl (by rw [h]))
    go_enter Tryz.func31, Tryz.ntmps31
    go_wp2_with fail
    go_ret
    exact ⟨by rw [HD.out]; rfl, Below.refl _ _⟩
  have KV := Lib.hid (fun k y (hy : m[k]? = some y) => HV.out.at hk k y hy)
  have HL := Lib.hid hl
  clear HV hm
  generalize hmn : m.length = mn at *
  subst hl
  go_enter Tryz.func31, Tryz.ntmps31
  go_wp2_with fail
  go_loopw [5] (fun s5 wr => ∃ k : Nat, k ≤ l.length ∧ s5 = .int .i64 k ∧ (∀ j, j < k → l[j]? = m[j]?) ∧ Below W.heap.size W wr) (fun s5 _ => l.length - (intOf s5).toNat)
  case atStart => exact ⟨0, by omega, rfl, fun j hj => absurd hj (by omega), Below.refl _ _⟩
  case round =>
    obtain ⟨k, hkl, rfl, hno, hb⟩ := hrel
    have HN := Lib.hid hno
    have HB := Lib.hid hb
    clear hno hb
    by_cases hlt : k < l.length
    · have hlt' : (k : Int) < l.length := by omega
      obtain ⟨x, hx⟩ : ∃ x, l[k]? = some x := ⟨_, List.getElem?_eq_getElem hlt⟩
      obtain ⟨y, hy⟩ : ∃ y, m[k]? = some y := ⟨_, List.getElem?_eq_getElem (by omega)⟩
      obtain ⟨b, o, c1, hv1, -, hbl, hr⟩ := HU.out.at hk k x hx
      obtain ⟨b', o', c2, hv2, -, hbl', hr'⟩ := KV.out k y hy
      injection hv1 with e1 e2 e3
      subst e1 e3
      injection hv2 with e1 e2 e3
      subst e1 e3
      have HT := Lib.hid (Two.mk (W := W) (b := b) (o := o + k * 2) (b' := b') (o' := o' + k * 2) (cs := f x) (cs' := f y) (range_below hr HB.out.drew hbl) (range_below hr' HB.out.drew hbl') HB.out.drew)
      have HI := Lib.hid (show (Tryz.prog.info? 43).map (·.size) = some (f x).length by rw [hk]; kernel_rfl)
      have HJ := Lib.hid (show (Tryz.prog.info? 43).map (·.size) = some (f y).length by rw [hk]; kernel_rfl)
      have hxy := HE.out x y
      have HM : Hid (x = y → ∀ j, j < k + 1 → l[j]? = m[j]?) := fun e j hj => by
        by_cases ej : j = k
        · subst ej; rw [hx, hy, e]
        · exact HN.out j (by omega)
      have HF : Hid (x ≠ y → decide (l = m) = false) := fun e => by
        simp only [decide_eq_false_iff_not]
        intro h
        rw [h, hy] at hx
        exact e (Option.some.inj hx).symm
      clear hr hr' hk
      generalize f x = fx at *
      generalize f y = fy at *
      cases hd : decide (x = y) with
      | true =>
        have hM := Lib.hid (HM.out (of_decide_eq_true hd))
        rw [hd] at hxy
        go_wp2_with fail
        refine region_in (Two W b (o + k * 2) b' (o' + k * 2) fx fy) (by kernel_rfl) (by kernel_rfl) HT.out ?_
        repeat (first
          | go_big_quiet_skip
          | (go_big_quiet_want; first
            | ((with_reducible refine load_in b (o + k * 2) ?_ (fun p => p.property.one) Tryz.underlying43 HI.out ?_); rfl; simp only [Act.put, List.setIfInBounds_toArray, List.set_cons_zero, List.set_cons_succ]; go_big_quiet_on)
            | ((with_reducible refine load_in b' (o' + k * 2) ?_ (fun p => p.property.two) Tryz.underlying43 HJ.out ?_); rfl; simp only [Act.put, List.setIfInBounds_toArray, List.set_cons_zero, List.set_cons_succ]; go_big_quiet_on)
            | (go_big_quiet_op; first | go_big_quiet_on | ((refine ⟨_, fun _ _ => rfl, ?_⟩); go_big_quiet_on))))
        refine wpQuiet_nil ?_
        rintro _ ⟨⟨w2, h2⟩, rfl⟩
        have HB2 := Lib.hid h2.low
        clear h2
        go_wp2_with fail
        go_roundw
        case rel => exact ⟨k + 1, by omega, by go_num, hM.out, HB2.out⟩
        case measure => simp only [intOf]; go_num
      | false =>
        have hF := Lib.hid (HF.out (of_decide_eq_false hd))
        rw [hd] at hxy
        go_wp2_with fail
        refine region_in (Two W b (o + k * 2) b' (o' + k * 2) fx fy) (by kernel_rfl) (by kernel_rfl) HT.out ?_
        repeat (first
          | go_big_quiet_skip
          | (go_big_quiet_want; first
            | ((with_reducible refine load_in b (o + k * 2) ?_ (fun p => p.property.one) Tryz.underlying43 HI.out ?_); rfl; simp only [Act.put, List.setIfInBounds_toArray, List.set_cons_zero, List.set_cons_succ]; go_big_quiet_on)
            | ((with_reducible refine load_in b' (o' + k * 2) ?_ (fun p => p.property.two) Tryz.underlying43 HJ.out ?_); rfl; simp only [Act.put, List.setIfInBounds_toArray, List.set_cons_zero, List.set_cons_succ]; go_big_quiet_on)
            | (go_big_quiet_op; first | go_big_quiet_on | ((refine ⟨_, fun _ _ => rfl, ?_⟩); go_big_quiet_on))))
        refine wpQuiet_nil ?_
        rintro _ ⟨⟨w2, h2⟩, rfl⟩
        have HB2 := Lib.hid h2.low
        clear h2
        go_wp2_with fail
        go_ret
        exact ⟨by rw [hF.out]; rfl, HB2.out⟩
    · obtain rfl : k = l.length := by omega
      have HD := Lib.hid (show decide (l = m) = true by simp only [decide_eq_true_eq]; exact same_at l m hmn.symm HN.out)
      go_wp2_with fail
      go_ret
      exact ⟨by rw [HD.out]; rfl, HB.out⟩
end Go.Proofs.YtnmbbnhgoedjgaaGreatDoor.Cg4

