/- A rule that comes as an argument. A configuration that comes as an argument: what it holds, and how much that can be. -/
import Derived.Test.YtnmbbnhgoedjgaaGreatDoorQB2
import Derived.Test.YtnmbbnhgoedjgaaGreatDoorQRuVa
import Derived.Test.YtnmbbnhgoedjgaaGreatDoorQSt2
import Derived.Test.YtnmbbnhgoedjgaaGreatDoorQCg0
import Derived.Deep.Slices
namespace Go.Proofs.YtnmbbnhgoedjgaaGreatDoor.RwO
open Go Go.RowKit Go.ChangeShapes Go.WideShapes Go.ChangeAt
open Go.Proofs.YtnmbbnhgoedjgaaGreatDoor.B0 Go.Proofs.YtnmbbnhgoedjgaaGreatDoor.Ad0 Go.Proofs.YtnmbbnhgoedjgaaGreatDoor.Ru0 Go.Proofs.YtnmbbnhgoedjgaaGreatDoor.RuB Go.Proofs.YtnmbbnhgoedjgaaGreatDoor.RuC Go.Proofs.YtnmbbnhgoedjgaaGreatDoor.RuE Go.Proofs.YtnmbbnhgoedjgaaGreatDoor.RuH
set_option linter.unusedVariables false
set_option linter.unusedSimpArgs false
theorem k1 : Tryz.prog.cellsOf 3 = 1 := by kernel_rfl
theorem k2 : Tryz.prog.cellsOf 41 = 1 := by kernel_rfl
theorem k3 : Tryz.prog.cellsOf 43 = 2 := by kernel_rfl
theorem k4 : Tryz.prog.cellsOf 4 = 1 := by kernel_rfl
theorem k5 : Tryz.prog.cellsOf 9 = 1 := by kernel_rfl
theorem k6 : Tryz.prog.cellsOf 69 = 2 := by kernel_rfl
theorem k7 : Tryz.prog.cellsOf 71 = 6 := by kernel_rfl
theorem k8 : Tryz.prog.cellsOf 73 = 3 := by kernel_rfl
theorem k9 : Tryz.prog.cellsOf 75 = 28 := by kernel_rfl
theorem u32_lt {n : Int} (h : (Lit.int .u32 n).wf = true) : ∃ k : Nat, n = k ∧ k < 4294967296 := by
  have hb : 0 ≤ n ∧ n < 4294967296 := by
    simp [Lit.wf, IntKind.min, IntKind.max, IntKind.bits, IntKind.signed] at h
    omega
  exact ⟨n.toNat, by omega, by omega⟩
theorem i64_in {n : Int} (h : (Lit.int .i64 n).wf = true) : -9223372036854775808 ≤ n ∧ n ≤ 9223372036854775807 := by
  simp [Lit.wf, IntKind.min, IntKind.max, IntKind.bits, IntKind.signed] at h
  omega
section
variable {H : Type} {enc : TypeId × Value → H} {W : World} {base : Nat} {sp : Nat → Bool} {held : Bool} {n : Nat} {l : List Value} {x : DataW H × List MemPlace}
theorem b_of (h : DataW.trod enc Tryz.prog W base sp held n 4 l = some x) : ∃ b, l = [.bool b] := by
  obtain ⟨b, q, -⟩ := DataW.trod_bool Tryz.underlying4 h
  exact ⟨b, q⟩
theorem i_of (h : DataW.trod enc Tryz.prog W base sp held n 3 l = some x) : ∃ a, l = [.int .i64 a] ∧ -9223372036854775808 ≤ a ∧ a ≤ 9223372036854775807 := by
  obtain ⟨a, q, -, wf⟩ := DataW.trod_int Tryz.underlying3 h
  exact ⟨a, q, i64_in wf⟩
theorem u_of (h : DataW.trod enc Tryz.prog W base sp held n 41 l = some x) : ∃ a : Nat, l = [.int .u32 a] ∧ a < 4294967296 := by
  obtain ⟨a, q, -, wf⟩ := DataW.trod_int Tryz.underlying41 h
  obtain ⟨k, rfl, hk⟩ := u32_lt wf
  exact ⟨k, q, hk⟩
theorem s_of (h : DataW.trod enc Tryz.prog W base sp held n 9 l = some x) : ∃ s : Wd, l = [.string ⟨s.toArray⟩] ∧ s.length ≤ 9223372036854775807 := by
  obtain ⟨s, q, -, hz⟩ := DataW.trod_string Tryz.underlying9 h
  refine ⟨s.data.toList, ?_, ?_⟩
  · rw [q]
  · have : s.data.toList.length = s.size := rfl
    rw [this]
    exact hz
theorem pfx_of (h : DataW.trod enc Tryz.prog W base sp held n 43 l = some x) : ∃ p : Pfx, p.ok ∧ l = [.int .u32 p.addr, .int .i64 p.len] := by
  obtain ⟨hz, -⟩ := open_fields Tryz.underlying43 h
  obtain ⟨m0, y0, e0⟩ := open_field Tryz.underlying43 h 0 41 0 1 rfl k2
  obtain ⟨m1, y1, e1⟩ := open_field Tryz.underlying43 h 1 3 1 1 rfl k1
  obtain ⟨a, qa, ha⟩ := u_of e0
  obtain ⟨b, qb, -⟩ := i_of e1
  rw [k3] at hz
  refine ⟨⟨a, b⟩, ha, ?_⟩
  match l, hz, qa, qb with
  | [c0, c1], _, qa, qb => simp at qa qb; rw [qa, qb]
theorem ports_of (h : DataW.trod enc Tryz.prog W base sp held n 69 l = some x) : ∃ a b : Int, l = [.int .i64 a, .int .i64 b] := by
  obtain ⟨hz, -⟩ := open_fields Tryz.underlying69 h
  obtain ⟨m0, y0, e0⟩ := open_field Tryz.underlying69 h 0 3 0 1 rfl k1
  obtain ⟨m1, y1, e1⟩ := open_field Tryz.underlying69 h 1 3 1 1 rfl k1
  obtain ⟨a, qa, -⟩ := i_of e0
  obtain ⟨b, qb, -⟩ := i_of e1
  rw [k6] at hz
  refine ⟨a, b, ?_⟩
  match l, hz, qa, qb with
  | [c0, c1], _, qa, qb => simp at qa qb; rw [qa, qb]
theorem side_of (h : DataW.trod enc Tryz.prog W base sp held n 71 l = some x) : ∃ s : SideM, l = (sideC s).toList ∧ s.table.length ≤ 9223372036854775807 ∧ s.pfx.ok := by
  obtain ⟨hz, -⟩ := open_fields Tryz.underlying71 h
  obtain ⟨m0, y0, e0⟩ := open_field Tryz.underlying71 h 0 4 0 1 rfl k4
  obtain ⟨m1, y1, e1⟩ := open_field Tryz.underlying71 h 1 9 1 1 rfl k5
  obtain ⟨m2, y2, e2⟩ := open_field Tryz.underlying71 h 2 43 2 2 rfl k3
  obtain ⟨m3, y3, e3⟩ := open_field Tryz.underlying71 h 3 69 4 2 rfl k6
  obtain ⟨a, qa⟩ := b_of e0
  obtain ⟨t, qb, ht⟩ := s_of e1
  obtain ⟨p, hp, qc⟩ := pfx_of e2
  obtain ⟨lo, hi, qd⟩ := ports_of e3
  rw [k7] at hz
  refine ⟨⟨a, t, p, lo, hi⟩, ?_, ht, hp⟩
  match l, hz, qa, qb, qc, qd with
  | [c0, c1, c2, c3, c4, c5], _, qa, qb, qc, qd => simp at qa qb qc qd; rw [qa, qb, qc.1, qc.2, qd.1, qd.2]; rfl
theorem pin_of (h : DataW.trod enc Tryz.prog W base sp held n 73 l = some x) : ∃ s : PinM, l = (pinC s).toList ∧ s.iface.length ≤ 9223372036854775807 ∧ s.gate < 4294967296 := by
  obtain ⟨hz, -⟩ := open_fields Tryz.underlying73 h
  obtain ⟨m0, y0, e0⟩ := open_field Tryz.underlying73 h 0 4 0 1 rfl k4
  obtain ⟨m1, y1, e1⟩ := open_field Tryz.underlying73 h 1 9 1 1 rfl k5
  obtain ⟨m2, y2, e2⟩ := open_field Tryz.underlying73 h 2 41 2 1 rfl k2
  obtain ⟨a, qa⟩ := b_of e0
  obtain ⟨t, qb, ht⟩ := s_of e1
  obtain ⟨p, qc, hp⟩ := u_of e2
  rw [k8] at hz
  refine ⟨⟨a, t, p⟩, ?_, ht, hp⟩
  match l, hz, qa, qb, qc with
  | [c0, c1, c2], _, qa, qb, qc => simp at qa qb qc; rw [qa, qb, qc]; rfl
set_option maxRecDepth 20000 in
theorem rule_of (h : DataW.trod enc Tryz.prog W base sp held n 75 l = some x) : ∃ r : RuleM, l = (ruleC r).toList ∧ Fits r := by
  obtain ⟨hz, -⟩ := open_fields Tryz.underlying75 h
  obtain ⟨m0, y0, e0⟩ := open_field Tryz.underlying75 h 0 4 0 1 rfl k4
  obtain ⟨v0, q0⟩ := b_of e0
  obtain ⟨m1, y1, e1⟩ := open_field Tryz.underlying75 h 1 4 1 1 rfl k4
  obtain ⟨v1, q1⟩ := b_of e1
  obtain ⟨m2, y2, e2⟩ := open_field Tryz.underlying75 h 2 4 2 1 rfl k4
  obtain ⟨v2, q2⟩ := b_of e2
  obtain ⟨m3, y3, e3⟩ := open_field Tryz.underlying75 h 3 9 3 1 rfl k5
  obtain ⟨v3, q3, h3⟩ := s_of e3
  obtain ⟨m4, y4, e4⟩ := open_field Tryz.underlying75 h 4 3 4 1 rfl k1
  obtain ⟨v4, q4, h4⟩ := i_of e4
  obtain ⟨m5, y5, e5⟩ := open_field Tryz.underlying75 h 5 71 5 6 rfl k7
  obtain ⟨v5, q5, h5⟩ := side_of e5
  obtain ⟨m6, y6, e6⟩ := open_field Tryz.underlying75 h 6 71 11 6 rfl k7
  obtain ⟨v6, q6, h6⟩ := side_of e6
  obtain ⟨m7, y7, e7⟩ := open_field Tryz.underlying75 h 7 3 17 1 rfl k1
  obtain ⟨v7, q7, h7⟩ := i_of e7
  obtain ⟨m8, y8, e8⟩ := open_field Tryz.underlying75 h 8 3 18 1 rfl k1
  obtain ⟨v8, q8, h8⟩ := i_of e8
  obtain ⟨m9, y9, e9⟩ := open_field Tryz.underlying75 h 9 3 19 1 rfl k1
  obtain ⟨v9, q9, h9⟩ := i_of e9
  obtain ⟨m10, y10, e10⟩ := open_field Tryz.underlying75 h 10 4 20 1 rfl k4
  obtain ⟨v10, q10⟩ := b_of e10
  obtain ⟨m11, y11, e11⟩ := open_field Tryz.underlying75 h 11 73 21 3 rfl k8
  obtain ⟨v11, q11, h11⟩ := pin_of e11
  obtain ⟨m12, y12, e12⟩ := open_field Tryz.underlying75 h 12 73 24 3 rfl k8
  obtain ⟨v12, q12, h12⟩ := pin_of e12
  obtain ⟨m13, y13, e13⟩ := open_field Tryz.underlying75 h 13 3 27 1 rfl k1
  obtain ⟨v13, q13, h13⟩ := i_of e13
  rw [k9] at hz
  refine ⟨⟨v0, v1, v2, v3, v4, v5, v6, v7, v8, v9, v10, v11, v12, v13⟩, ?_, ⟨h3, h5.1, h5.2, h6.1, h6.2, h11.1, h12.1, h11.2, h12.2, h7⟩⟩
  match l, hz, q0, q1, q2, q3, q4, q5, q6, q7, q8, q9, q10, q11, q12, q13 with
  | [c0, c1, c2, c3, c4, c5, c6, c7, c8, c9, c10, c11, c12, c13, c14, c15, c16, c17, c18, c19, c20, c21, c22, c23, c24, c25, c26, c27], _, q0, q1, q2, q3, q4, q5, q6, q7, q8, q9, q10, q11, q12, q13 =>
    simp [sideC, pinC] at q0 q1 q2 q3 q4 q5 q6 q7 q8 q9 q10 q11 q12 q13
    obtain ⟨a5, a6, a7, a8, a9, a10⟩ := q5
    obtain ⟨a11, a12, a13, a14, a15, a16⟩ := q6
    obtain ⟨a21, a22, a23⟩ := q11
    obtain ⟨a24, a25, a26⟩ := q12
    rw [q0, q1, q2, q3, q4, a5, a6, a7, a8, a9, a10, a11, a12, a13, a14, a15, a16, q7, q8, q9, q10, a21, a22, a23, a24, a25, a26, q13]
    rfl
end
end Go.Proofs.YtnmbbnhgoedjgaaGreatDoor.RwO

namespace Go.Proofs.YtnmbbnhgoedjgaaGreatDoor.CkO
open Go Go.RowKit Go.Proofs.YtnmbbnhgoedjgaaGreatDoor.B0 Go.Proofs.YtnmbbnhgoedjgaaGreatDoor.Ad0 Go.Proofs.YtnmbbnhgoedjgaaGreatDoor.Ru0 Go.Proofs.YtnmbbnhgoedjgaaGreatDoor.Ru3 Go.Proofs.YtnmbbnhgoedjgaaGreatDoor.RuE Go.Proofs.YtnmbbnhgoedjgaaGreatDoor.RuH Go.Proofs.YtnmbbnhgoedjgaaGreatDoor.RwO Go.Proofs.YtnmbbnhgoedjgaaGreatDoor.RuS Go.Proofs.YtnmbbnhgoedjgaaGreatDoor.Rw0 Go.Proofs.YtnmbbnhgoedjgaaGreatDoor.Cf0 Go.Proofs.YtnmbbnhgoedjgaaGreatDoor.Cf4 Go.Proofs.YtnmbbnhgoedjgaaGreatDoor.Cf6 Go.Proofs.YtnmbbnhgoedjgaaGreatDoor.Cg0
set_option linter.unusedVariables false
set_option linter.unusedSimpArgs false
section
variable {H : Type} {P : Program}
def okW (P : Program) (t : TypeId) (d : DataW H) : Prop := (d.weights P t).all (· ≤ reachBytes) = true
theorem each_at : ∀ (ts : List TypeId) (ds : List (DataW H)), (DataW.weightsEach P ts ds).all (· ≤ reachBytes) = true → ∀ (i : Nat) (t : TypeId) (d : DataW H), ts[i]? = some t → ds[i]? = some d → okW P t d
  | [], _, _, i, t, d, ht, _ => by simp at ht
  | _ :: _, [], _, i, t, d, _, hd => by simp at hd
  | t' :: ts, d' :: ds, h, 0, t, d, ht, hd => by
    simp at ht hd
    subst ht hd
    unfold DataW.weightsEach at h
    rw [List.all_append, Bool.and_eq_true] at h
    exact h.1
  | t' :: ts, d' :: ds, h, i + 1, t, d, ht, hd => by
    unfold DataW.weightsEach at h
    rw [List.all_append, Bool.and_eq_true] at h
    exact each_at ts ds h.2 i t d (by simpa using ht) (by simpa using hd)
theorem all_at {e : TypeId} : ∀ (ds : List (DataW H)), (DataW.weightsAll P e ds).all (· ≤ reachBytes) = true → ∀ (i : Nat) (d : DataW H), ds[i]? = some d → okW P e d
  | [], _, i, d, hd => by simp at hd
  | d' :: ds, h, 0, d, hd => by
    simp at hd
    subst hd
    unfold DataW.weightsAll at h
    rw [List.all_append, Bool.and_eq_true] at h
    exact h.1
  | d' :: ds, h, i + 1, d, hd => by
    unfold DataW.weightsAll at h
    rw [List.all_append, Bool.and_eq_true] at h
    exact all_at ds h.2 i d (by simpa using hd)
variable {enc : TypeId × Value → H} {W : World} {base : Nat} {sp : Nat → Bool} {held : Bool} {n : Nat} {l : List Value} {x : DataW H × List MemPlace}
/-- One field, and its weight. -/
theorem field_w {t : TypeId} {fs : Array Field} (hu : P.underlying t = some (.struct fs)) (h : DataW.trod enc P W base sp held n t l = some x) (hw : okW P t x.1) (i : Nat) (T o k : Nat) (hi : (fs[i]?).map (fun f => (f.type, f.offset)) = some (T, o)) (hk : P.cellsOf T = k) :
    ∃ m y, DataW.trod enc P W base sp held m T ((l.drop o).take k) = some y ∧ okW P T y.1 := by
  obtain ⟨xs, m, -, rfl, hlen, hl2, hf⟩ := DataW.trod_struct hu h
  cases hq : fs[i]? with
  | none => rw [hq] at hi; cases hi
  | some f =>
    rw [hq] at hi
    simp only [Option.map_some, Option.some.injEq, Prod.mk.injEq] at hi
    obtain ⟨rfl, rfl⟩ := hi
    have hlt : i < xs.length := by
      rw [hl2]
      exact (Array.getElem?_eq_some_iff.1 hq).1
    refine ⟨m, xs[i], by rw [← hk, hf i f hq, List.getElem?_eq_getElem hlt], ?_⟩
    unfold okW at hw
    simp only [DataW.weights, hu] at hw
    refine each_at _ _ hw i f.type xs[i].1 ?_ ?_
    · rw [List.getElem?_map, Array.getElem?_toList, hq]; rfl
    · rw [List.getElem?_map, List.getElem?_eq_getElem hlt]; rfl
theorem flat_len {α : Type} (f : α → List Value) (k : Nat) (hk : ∀ y, (f y).length = k) : ∀ l : List α, (l.flatMap f).length = l.length * k
  | [] => by simp
  | a :: t => by rw [List.flatMap_cons, List.length_append, hk, flat_len f k hk t, List.length_cons, Nat.add_mul, Nat.one_mul, Nat.add_comm]
/-- A slice of rows. -/
theorem rows_of {α : Type} (f : α → List Value) (k : Nat) (hk0 : 0 < k) (hk : ∀ y, (f y).length = k) {T E : TypeId} (ht : P.underlying T = some (.slice E)) (hc : P.cellsOf E = k) (hb : 0 < P.bytesOf E) (Q : α → Prop)
    (he : ∀ (m : Nat) (cs : List Value) (y : DataW H × List MemPlace), DataW.trod enc P W base sp held m E cs = some y → okW P E y.1 → ∃ z, cs = f z ∧ Q z)
    (h : DataW.trod enc P W base sp held n T l = some x) (hw : okW P T x.1) : ∃ (v : Value) (ys : List α), l = [v] ∧ Sl W v ys.length (ys.flatMap f) ∧ (∀ y ∈ ys, Q y) ∧ ys.length ≤ reachBytes := by
  rcases Deep.open_slice ht h with ⟨rfl, rfl⟩ | ⟨a, len, cap, m, j, D, Pl, rfl, hba, hlc, hcm, hm, rfl, hel⟩
  · exact ⟨_, [], rfl, Sl.nil W, fun y hy => by simp at hy, Nat.zero_le _⟩
  have hlm : len ≤ m := by rw [hm]; split <;> omega
  unfold okW at hw
  simp only [DataW.weights, ht, List.all_cons, List.all_append, Bool.and_eq_true, decide_eq_true_eq, List.length_map, List.length_range] at hw
  obtain ⟨hw0, hw1, -⟩ := hw
  have each : ∀ i, i < len → ∃ z, W.cells? base (a.add (i * P.cellsOf E)) (P.cellsOf E) = some (f z) ∧ Q z := by
    intro i hi
    obtain ⟨cs', h1, h2⟩ := hel i (by omega)
    obtain ⟨z, rfl, hz⟩ := he j cs' _ h2 (all_at _ hw1 i (D i) (by simp [hi]))
    exact ⟨z, h1, hz⟩
  by_cases h0 : len = 0
  · subst h0
    exact ⟨_, [], rfl, ⟨some a, cap, rfl, Nat.zero_le _, .inl ⟨rfl, rfl⟩⟩, fun y hy => by simp at hy, Nat.zero_le _⟩
  classical
  let g : Nat → α := fun i => if hi : i < len then Classical.choose (each i hi) else Classical.choose (each 0 (by omega))
  have hg : ∀ i, i < len → W.cells? base (a.add (i * P.cellsOf E)) (P.cellsOf E) = some (f (g i)) ∧ Q (g i) := by
    intro i hi
    have := Classical.choose_spec (each i hi)
    simp only [g, dif_pos hi]
    exact this
  have hcell : ∀ i, i < len → ∀ q, q < k → W.cell? ((a.add (i * k)).add q) = (f (g i))[q]? := by
    intro i hi q hq
    have h1 := (World.cells?_some (hg i hi).1).2.2 q (by rw [hc]; exact hq)
    rwa [hc] at h1
  have hspot : a.spot = none := by
    have h1 := hcell 0 (by omega) 0 hk0
    have h2 : 0 < (f (g 0)).length := by rw [hk]; exact hk0
    rw [List.getElem?_eq_getElem h2] at h1
    have h3 := World.cell?_spot h1
    simpa [Addr.add] using h3
  obtain ⟨b, o, s⟩ := a
  simp only at hspot
  subst hspot
  have hblk : b < W.heap.size := by
    have h1 := hcell 0 (by omega) 0 hk0
    have h2 : 0 < (f (g 0)).length := by rw [hk]; exact hk0
    rw [List.getElem?_eq_getElem h2] at h1
    have := World.block_lt_of_cell? W _ h1
    simpa [Addr.add] using this
  refine ⟨_, (List.range len).map g, rfl, ⟨some ⟨b, o, none⟩, cap, by simp, by simpa using hlc, .inr ⟨b, o, rfl, hblk, ?_⟩⟩, ?_, ?_⟩
  · intro q v hv
    have hql : q < ((List.range len).map g).length * k := by
      have h1 := (List.getElem?_eq_some_iff.1 hv).1
      rwa [flat_len f k hk] at h1
    have hq1 : q / k < len := by
      rw [List.length_map, List.length_range] at hql
      exact Nat.div_lt_of_lt_mul (by rw [Nat.mul_comm]; exact hql)
    have hq2 : q % k < k := Nat.mod_lt _ hk0
    have hqe : q / k * k + q % k = q := by rw [Nat.mul_comm]; exact Nat.div_add_mod q k
    have h1 := flat_at f k hk ((List.range len).map g) (q / k) (q % k) (g (q / k)) (by simp [hq1]) hq2
    rw [hqe, hv] at h1
    have h2 := hcell (q / k) hq1 (q % k) hq2
    rw [← h1] at h2
    rw [← h2]
    congr 1
    by_cases z1 : q / k * k = 0 <;> by_cases z2 : q % k = 0 <;> simp [Addr.add, z1, z2] <;> omega
  · intro y hy
    obtain ⟨i, hi, rfl⟩ := List.mem_map.1 hy
    exact (hg i (List.mem_range.1 hi)).2
  · rw [List.length_map, List.length_range]
    have : len * 1 ≤ (len + (m - len)) * P.bytesOf E := Nat.mul_le_mul (by omega) hb
    omega
end
section
variable {H : Type} {enc : TypeId × Value → H} {W : World} {base : Nat} {sp : Nat → Bool} {held : Bool} {n : Nat} {l : List Value} {x : DataW H × List MemPlace}
theorem c1 : Tryz.prog.cellsOf 45 = 5 := by kernel_rfl
theorem c2 : Tryz.prog.cellsOf 66 = 2 := by kernel_rfl
theorem c3 : Tryz.prog.cellsOf 27 = 6 := by kernel_rfl
theorem c4 : Tryz.prog.cellsOf 22 = 1 := by kernel_rfl
theorem c5 : Tryz.prog.cellsOf 23 = 1 := by kernel_rfl
theorem c6 : Tryz.prog.cellsOf 24 = 1 := by kernel_rfl
theorem c7 : Tryz.prog.cellsOf 25 = 1 := by kernel_rfl
theorem w1 : Tryz.prog.bytesOf 45 = 48 := by kernel_rfl
theorem w2 : Tryz.prog.bytesOf 43 = 16 := by kernel_rfl
theorem w3 : Tryz.prog.bytesOf 66 = 40 := by kernel_rfl
theorem w4 : Tryz.prog.bytesOf 75 = 248 := by kernel_rfl
theorem iface_of (h : DataW.trod enc Tryz.prog W base sp held n 45 l = some x) : ∃ y : IfaceM, l = ifL y ∧ (y.addr.ok ∧ y.name.length ≤ 9223372036854775807) := by
  obtain ⟨hz, -⟩ := open_fields Tryz.underlying45 h
  obtain ⟨m0, y0, e0⟩ := open_field Tryz.underlying45 h 0 9 0 1 rfl k5
  obtain ⟨m1, y1, e1⟩ := open_field Tryz.underlying45 h 1 43 1 2 rfl k3
  obtain ⟨m2, y2, e2⟩ := open_field Tryz.underlying45 h 2 3 3 1 rfl k1
  obtain ⟨m3, y3, e3⟩ := open_field Tryz.underlying45 h 3 3 4 1 rfl k1
  obtain ⟨s, qa, hs⟩ := s_of e0
  obtain ⟨p, hp, qb⟩ := pfx_of e1
  obtain ⟨u, qc, -⟩ := i_of e2
  obtain ⟨r, qd, -⟩ := i_of e3
  rw [c1] at hz
  refine ⟨⟨s, p, u, r⟩, ?_, hp, hs⟩
  match l, hz, qa, qb, qc, qd with
  | [a0, a1, a2, a3, a4], _, qa, qb, qc, qd => simp at qa qb qc qd; rw [qa, qb.1, qb.2, qc, qd]; rfl
theorem pfxl_of (h : DataW.trod enc Tryz.prog W base sp held n 43 l = some x) : ∃ y : Pfx, l = pfxL y ∧ y.ok := by
  obtain ⟨p, hp, hl⟩ := pfx_of h
  exact ⟨p, hl, hp⟩
theorem rulel_of (h : DataW.trod enc Tryz.prog W base sp held n 75 l = some x) : ∃ y : RuleM, l = rlL y ∧ Fits y := by
  obtain ⟨r, hr, hf⟩ := rule_of h
  exact ⟨r, hr, hf⟩
theorem named_of (h : DataW.trod enc Tryz.prog W base sp held n 66 l = some x) (hw : okW Tryz.prog 66 x.1) : ∃ y : NamedM × Value, l = nmL y ∧ (y.1.name.length ≤ 9223372036854775807 ∧ Sl W y.2 y.1.l.length (y.1.l.flatMap pfxL) ∧ (∀ p ∈ y.1.l, p.ok) ∧ y.1.l.length ≤ reachBytes) := by
  obtain ⟨hz, -⟩ := open_fields Tryz.underlying66 h
  obtain ⟨m0, y0, e0⟩ := open_field Tryz.underlying66 h 0 9 0 1 rfl k5
  obtain ⟨m1, y1, e1, hw1⟩ := field_w Tryz.underlying66 h hw 1 23 1 1 rfl c5
  obtain ⟨s, qa, hs⟩ := s_of e0
  obtain ⟨v, ys, qb, hsl, hok, hle⟩ := rows_of pfxL 2 (by decide) pfxL_len Tryz.underlying23 k3 (by rw [w2]; decide) (fun p => p.ok) (fun m cs y hy _ => pfxl_of hy) e1 hw1
  rw [c2] at hz
  refine ⟨(⟨s, ys⟩, v), ?_, hs, hsl, hok, hle⟩
  match l, hz, qa, qb with
  | [a0, a1], _, qa, qb => simp at qa qb; rw [qa, qb]; rfl
/-- All but the bound on the tables of a configuration that may be. -/
structure WideC (c : ConfM) : Prop where
  ok : OkC c
  ni : c.ifaces.length ≤ 140737488355328
  nb : c.bogons.length ≤ 140737488355328
  nt : c.tables.length ≤ 140737488355328
  nr : c.rules.length ≤ 140737488355328
  il : ∀ x ∈ c.ifaces, x.name.length ≤ 9223372036854775807
  tl : ∀ t ∈ c.tables, t.name.length ≤ 9223372036854775807 ∧ t.l.length ≤ 140737488355328
set_option maxRecDepth 20000 in
theorem conf_of (h : DataW.trod enc Tryz.prog W base sp held n 27 l = some x) (hw : okW Tryz.prog 27 x.1) : ∃ (c : ConfM) (v0 v1 v2 v3 : Value) (ts : List (NamedM × Value)), ConfIn W v0 v1 v2 v3 ts c ∧ WideC c ∧ l = (confC v0 v1 v2 v3 c).toList := by
  have hr : reachBytes ≤ 140737488355328 := by decide
  obtain ⟨hz, -⟩ := open_fields Tryz.underlying27 h
  obtain ⟨m0, y0, e0, h0⟩ := field_w Tryz.underlying27 h hw 0 22 0 1 rfl c4
  obtain ⟨m1, y1, e1, h1⟩ := field_w Tryz.underlying27 h hw 1 23 1 1 rfl c5
  obtain ⟨m2, y2, e2, h2⟩ := field_w Tryz.underlying27 h hw 2 24 2 1 rfl c6
  obtain ⟨m3, y3, e3, h3⟩ := field_w Tryz.underlying27 h hw 3 25 3 1 rfl c7
  obtain ⟨m4, y4, e4⟩ := open_field Tryz.underlying27 h 4 3 4 1 rfl k1
  obtain ⟨m5, y5, e5⟩ := open_field Tryz.underlying27 h 5 3 5 1 rfl k1
  obtain ⟨v0, is, q0, s0, o0, n0⟩ := rows_of ifL 5 (by decide) ifL_len Tryz.underlying22 c1 (by rw [w1]; decide) (fun y => y.addr.ok ∧ y.name.length ≤ 9223372036854775807) (fun m cs y hy _ => iface_of hy) e0 h0
  obtain ⟨v1, bs, q1, s1, o1, n1⟩ := rows_of pfxL 2 (by decide) pfxL_len Tryz.underlying23 k3 (by rw [w2]; decide) (fun p => p.ok) (fun m cs y hy _ => pfxl_of hy) e1 h1
  obtain ⟨v2, ts, q2, s2, o2, n2⟩ := rows_of nmL 2 (by decide) nmL_len Tryz.underlying24 c2 (by rw [w3]; decide) (fun y => y.1.name.length ≤ 9223372036854775807 ∧ Sl W y.2 y.1.l.length (y.1.l.flatMap pfxL) ∧ (∀ p ∈ y.1.l, p.ok) ∧ y.1.l.length ≤ reachBytes) (fun m cs y hy hw => named_of hy hw) e2 h2
  obtain ⟨v3, rs, q3, s3, o3, n3⟩ := rows_of rlL 28 (by decide) rlL_len Tryz.underlying25 k9 (by rw [w4]; decide) (fun r => Fits r) (fun m cs y hy _ => rulel_of hy) e3 h3
  obtain ⟨fl, q4, -⟩ := i_of e4
  obtain ⟨er, q5, -⟩ := i_of e5
  rw [c3] at hz
  refine ⟨⟨is, bs, ts.map (·.1), rs, fl, er⟩, v0, v1, v2, v3, ts, ⟨s0, s1, s2, s3, rfl, fun t ht => (o2 t ht).2.1⟩, ⟨⟨fun y hy => (o0 y hy).1, o1, fun t ht p hp => ?_, o3⟩, Nat.le_trans n0 hr, Nat.le_trans n1 hr, by rw [List.length_map]; exact Nat.le_trans n2 hr, Nat.le_trans n3 hr, fun y hy => (o0 y hy).2, fun t ht => ?_⟩, ?_⟩
  · obtain ⟨y, hy, rfl⟩ := List.mem_map.1 ht
    exact (o2 y hy).2.2.1 p hp
  · obtain ⟨y, hy, rfl⟩ := List.mem_map.1 ht
    exact ⟨(o2 y hy).1, Nat.le_trans (o2 y hy).2.2.2 hr⟩
  · match l, hz, q0, q1, q2, q3, q4, q5 with
    | [a0, a1, a2, a3, a4, a5], _, q0, q1, q2, q3, q4, q5 => simp at q0 q1 q2 q3 q4 q5; rw [q0, q1, q2, q3, q4, q5]; rfl
end
set_option maxRecDepth 100000 in
theorem open_conf {H : Type} {enc : TypeId × Value → H} {W : World} {b : Nat} {v : Value} {d : DataW H} {p : List MemPlace} (hw : okW Tryz.prog 27 d)
    (hv : Value.okWide Tryz.prog W .any b 27 v) (h : DataW.Trod enc Tryz.prog W 0 (fun _ => true) true 27 v d p) : ∃ (c : ConfM) (v0 v1 v2 v3 : Value) (ts : List (NamedM × Value)), ConfIn W v0 v1 v2 v3 ts c ∧ WideC c ∧ v = .agg (confC v0 v1 v2 v3 c) := by
  obtain ⟨cs, rfl, hsz, k, hk⟩ := open_struct Tryz.underlying27 hv h
  obtain ⟨c, v0, v1, v2, v3, ts, hc, hwd, hl⟩ := conf_of hk hw
  exact ⟨c, v0, v1, v2, v3, ts, hc, hwd, congrArg Value.agg (Array.ext' hl)⟩
end Go.Proofs.YtnmbbnhgoedjgaaGreatDoor.CkO

