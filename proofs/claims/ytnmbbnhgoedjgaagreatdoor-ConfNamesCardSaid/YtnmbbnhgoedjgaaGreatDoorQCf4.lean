/- Lists of structs that lie in memory, as a slice tells them. Over any program. -/
import Derived.Test.YtnmbbnhgoedjgaaGreatDoorQB1
import Derived.Test.YtnmbbnhgoedjgaaGreatDoorQMem
import Derived.Deep.MidRow
namespace Go.Proofs.YtnmbbnhgoedjgaaGreatDoor.Cf4
open Go Go.RowKit
set_option linter.unusedVariables false
/-- A slice's elements, cell by cell. -/
def Sl (W : World) (v : Value) (n : Nat) (cells : List Value) : Prop := ∃ (A : Option Addr) (cap : Nat), v = .slice A n cap ∧ n ≤ cap ∧ ((n = 0 ∧ cells = []) ∨ ∃ b o, A = some ⟨b, o, none⟩ ∧ b < W.heap.size ∧ W.rangeAt b o cells)
theorem range_below {W W' : World} {b o : Nat} {cs : List Value} (h : W.rangeAt b o cs) (hb : Below W.heap.size W W') (hl : b < W.heap.size) : W'.rangeAt b o cs := fun j v hj => (hb.cell (by exact hl)).trans (h j v hj)
theorem Sl.below {W W' : World} {v : Value} {n : Nat} {cells : List Value} (h : Sl W v n cells) (hb : Below W.heap.size W W') : Sl W' v n cells := by
  obtain ⟨A, cap, rfl, hn, h⟩ := h
  refine ⟨A, cap, rfl, hn, ?_⟩
  rcases h with h | ⟨b, o, rfl, hl, hr⟩
  · exact .inl h
  · exact .inr ⟨b, o, rfl, Nat.lt_of_lt_of_le hl hb.size, range_below hr hb hl⟩
theorem flat_at {α : Type} (f : α → List Value) (k : Nat) (hk : ∀ x, (f x).length = k) : ∀ (l : List α) (i j : Nat) (x : α), l[i]? = some x → j < k → (l.flatMap f)[i * k + j]? = (f x)[j]?
  | [], _, _, _, h, _ => by simp at h
  | y :: t, 0, j, x, h, hj => by
    simp at h
    subst h
    rw [List.flatMap_cons, Nat.zero_mul, Nat.zero_add, List.getElem?_append_left (by rw [hk]; exact hj)]
  | y :: t, i + 1, j, x, h, hj => by
    have e : (i + 1) * k + j = k + (i * k + j) := by rw [Nat.add_mul, Nat.one_mul]; omega
    rw [List.flatMap_cons, e, List.getElem?_append_right (by rw [hk]; omega), hk, Nat.add_sub_cancel_left]
    exact flat_at f k hk t i j x (by simpa using h) hj
/-- One element of a slice. -/
theorem Sl.at {α : Type} {f : α → List Value} {k : Nat} (hk : ∀ x, (f x).length = k) {W : World} {v : Value} {l : List α} (h : Sl W v l.length (l.flatMap f)) (i : Nat) (x : α) (hx : l[i]? = some x) :
    ∃ b o cap, v = .slice (some ⟨b, o, none⟩) l.length cap ∧ l.length ≤ cap ∧ b < W.heap.size ∧ W.rangeAt b (o + i * k) (f x) := by
  obtain ⟨A, cap, rfl, hn, h⟩ := h
  have hi := (List.getElem?_eq_some_iff.1 hx).1
  rcases h with ⟨h, _⟩ | ⟨b, o, rfl, hl, hr⟩
  · omega
  · refine ⟨b, o, cap, rfl, hn, hl, fun j u hj => ?_⟩
    have hjl := (List.getElem?_eq_some_iff.1 hj).1
    have hc := flat_at f k hk l i j x hx (by rw [← hk x]; exact hjl)
    rw [hj] at hc
    have := hr (i * k + j) u hc
    rwa [← Nat.add_assoc] at this
theorem Sl.nil (W : World) : Sl W (.slice none 0 0) 0 [] := ⟨none, 0, rfl, Nat.le_refl _, .inl ⟨rfl, rfl⟩⟩
/-- A row of one's own is such a slice. -/
theorem own_sl {W : World} {base : Nat} {e : TypeId} {size : Nat} {v : Value} {n : Nat} {xs : List Value} (h : W.ownsRow base e size v n xs) : Sl W v n xs := by
  have h1 := h.1
  rcases h.2 with ⟨rfl, rfl⟩ | ⟨g, cap, cur, rfl, hb, hg, hcap, hm, hsz, htake⟩
  · refine ⟨.none, 0, rfl, Nat.le_refl _, .inl ⟨rfl, ?_⟩⟩
    rw [Nat.zero_mul] at h1
    exact List.length_eq_zero_iff.1 h1
  · refine ⟨some ⟨g, 0, .none⟩, cap, rfl, hcap, .inr ⟨g, 0, rfl, (Array.getElem?_eq_some_iff.1 hg).1, fun j u hj => ?_⟩⟩
    rw [Nat.zero_add, cell_of_row _ _ _ _ _ _ hg]
    rw [← htake, List.getElem?_take] at hj
    split at hj
    · simpa using hj
    · cases hj
/-- 'append(v, x)', x a struct of k cells, behind the box of the one element. -/
theorem wpList_append_row {P : Program} {ops : Array Oper} {rest : List Oper} {o : Oper} {a : Act} {Q : Exit → Act → World → Prop} {W : World} (hgd : o.guard = none) (s x : Operand) (t : TypeId)
    (ho : o.op = .call { callee := .builtin .append, args := #[s, x], argTypes := #[t, t] })
    (base : Nat) (e : TypeId) (z : Value) (k bytes : Nat) (hk : 0 < k) (ht : P.underlying t = some (.slice e)) (hinfo : (P.info? e).map (fun i => (i.zero, i.size, i.bytes)) = some (some z, k, bytes)) (hzs : z.cells.size = k)
    (v : Value) (n : Nat) (xs : List Value) (hs : a.eval s = v) (hown : W.ownsRow base e k v n xs) (ys : Array Value) (hys : ys.size = k) (hy : ∀ y ∈ ys.toList, y.oneCell' = true)
    (hx : a.eval x = .slice (some ⟨W.heap.size, 0, none⟩) 1 1)
    (h63 : n + 1 ≤ maxLen) (hbytes : (n + 1) * bytes ≤ 140737488355328) (hbase : base ≤ W.heap.size)
    (h : ∀ v' w', w'.ownsRow base e k v' (n + 1) (xs ++ ys.toList) → Below base W w' → W.heap.size ≤ w'.heap.size → wpList P ops Q rest (a.put o.dst v') w') : wpList P ops Q (o :: rest) a (W.alloc (.cells ys e)) := by
  obtain ⟨i0, hi, hz0, hz1, hz2⟩ := info_parts hinfo
  refine wpList_append_own _ hgd s x t ho base e i0 z k bytes ht hi hz0 hz1 hz2 hzs hk v n xs hs (hown.alloc _) ⟨W.heap.size, 0, .none⟩ 1 1 ys.toList hx (by simp [hys]) ?_ hy h63 hbytes (by simp; omega) ?_
  · intro j u hj
    have hadd : (⟨W.heap.size, 0, .none⟩ : Addr).add j = ⟨W.heap.size, j, .none⟩ := by unfold Addr.add; split <;> simp_all
    rw [hadd, cell_of_row _ _ _ _ _ _ (heap_alloc_new W (.cells ys e))]
    simpa using hj
  · intro v' w' h1 h2 h3
    refine h v' w' h1 ?_ ?_
    · refine ((Below.refl base W).alloc hbase _).grown h2 (by simp; omega) (fun k hk => (hown.lt k hk).1)
    · have := h2.size
      simp at this
      omega
/-- A struct is read where its cells lie. -/
theorem load_range {P : Program} {ops : Array Oper} {rest : List Oper} {a : Act} {w : World} {Q : Exit → Act → World → Prop} {dst : Option Tmp} {type : TypeId} {pos : String} {after : Array Edge} {guard : Option (Nat × Bool)} {ty : TypeId} {x : Operand}
    (g k : Nat) (hx : a.eval x = .pointer (some ⟨g, k, .none⟩)) {cs : List Value} {fs : Array Field} (hg : w.rangeAt g k cs)
    (hu : P.underlying ty = some (.struct fs)) (hi : (P.info? ty).map (·.size) = some cs.length) (hw : Region.wanted { dst := dst, op := .load ty x, type := type, pos := pos, after := after, guard := guard } (yielded ops a.tmps) = true)
    (h : wpList P ops Q rest (a.put dst (.agg cs.toArray)) w) : wpList P ops Q ({ dst := dst, op := .load ty x, type := type, pos := pos, after := after, guard := guard } :: rest) a w :=
  BigFrame.wpList_want hw fun _ hK => wp_load_mid ty x rfl g k hx cs (.struct fs) hg hu rfl hi (hK _ _ h)
end Go.Proofs.YtnmbbnhgoedjgaaGreatDoor.Cf4

