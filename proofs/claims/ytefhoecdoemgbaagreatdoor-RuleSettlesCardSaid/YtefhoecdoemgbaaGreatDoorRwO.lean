/- A rule that comes as an argument. -/
import Derived.Test.YtefhoecdoemgbaaGreatDoorB2
import Derived.Test.YtefhoecdoemgbaaGreatDoorRuH
import Derived.Test.YtefhoecdoemgbaaGreatDoorSt2
namespace Go.Proofs.YtefhoecdoemgbaaGreatDoor.RwO
open Go Go.RowKit Go.ChangeShapes Go.WideShapes Go.ChangeAt
open Go.Proofs.YtefhoecdoemgbaaGreatDoor.B0 Go.Proofs.YtefhoecdoemgbaaGreatDoor.B2 Go.Proofs.YtefhoecdoemgbaaGreatDoor.Ad0 Go.Proofs.YtefhoecdoemgbaaGreatDoor.St2 Go.Proofs.YtefhoecdoemgbaaGreatDoor.Ru0 Go.Proofs.YtefhoecdoemgbaaGreatDoor.RuB Go.Proofs.YtefhoecdoemgbaaGreatDoor.RuC Go.Proofs.YtefhoecdoemgbaaGreatDoor.RuE Go.Proofs.YtefhoecdoemgbaaGreatDoor.RuH
set_option linter.unusedVariables false
set_option linter.unusedSimpArgs false

theorem k1 : Tryz.prog.cellsOf 3 = 1 := by kernel_rfl
theorem k2 : Tryz.prog.cellsOf 22 = 1 := by kernel_rfl
theorem k3 : Tryz.prog.cellsOf 24 = 2 := by kernel_rfl
theorem k4 : Tryz.prog.cellsOf 4 = 1 := by kernel_rfl
theorem k5 : Tryz.prog.cellsOf 9 = 1 := by kernel_rfl
theorem k6 : Tryz.prog.cellsOf 26 = 2 := by kernel_rfl
theorem k7 : Tryz.prog.cellsOf 28 = 6 := by kernel_rfl
theorem k8 : Tryz.prog.cellsOf 30 = 3 := by kernel_rfl
theorem k9 : Tryz.prog.cellsOf 32 = 28 := by kernel_rfl
theorem u32_lt {n : Int} (h : (Lit.int .u32 n).wf = true) : ∃ k : Nat, n = k ∧ k < 4294967296 := by
  have hb : 0 ≤ n ∧ n < 4294967296 := by
    simp [Lit.wf, IntKind.min, IntKind.max, IntKind.bits, IntKind.signed] at h
    omega
  exact ⟨n.toNat, by omega, by omega⟩
theorem i64_in {n : Int} (h : (Lit.int .i64 n).wf = true) : -9223372036854775808 ≤ n ∧ n ≤ 9223372036854775807 := by
  simp [Lit.wf, IntKind.min, IntKind.max, IntKind.bits, IntKind.signed] at h
  omega
section
variable {H : Type} {enc : TypeId × Value → H} {W : World} {base : Nat} {sp : Nat → Bool} {held : Bool} {n : Nat} {l : List Value} {x : DataW H × List MemPlace}
theorem b_of (h : DataW.trod enc Tryz.prog W base sp held n 4 l = some x) : ∃ b, l = [.bool b] := by
  obtain ⟨b, q, -⟩ := DataW.trod_bool Tryz.underlying4 h
  exact ⟨b, q⟩
theorem i_of (h : DataW.trod enc Tryz.prog W base sp held n 3 l = some x) : ∃ a, l = [.int .i64 a] ∧ -9223372036854775808 ≤ a ∧ a ≤ 9223372036854775807 := by
  obtain ⟨a, q, -, wf⟩ := DataW.trod_int Tryz.underlying3 h
  exact ⟨a, q, i64_in wf⟩
theorem u_of (h : DataW.trod enc Tryz.prog W base sp held n 22 l = some x) : ∃ a : Nat, l = [.int .u32 a] ∧ a < 4294967296 := by
  obtain ⟨a, q, -, wf⟩ := DataW.trod_int Tryz.underlying22 h
  obtain ⟨k, rfl, hk⟩ := u32_lt wf
  exact ⟨k, q, hk⟩
theorem s_of (h : DataW.trod enc Tryz.prog W base sp held n 9 l = some x) : ∃ s : Wd, l = [.string ⟨s.toArray⟩] ∧ s.length ≤ 9223372036854775807 := by
  obtain ⟨s, q, -, hz⟩ := DataW.trod_string Tryz.underlying9 h
  refine ⟨s.data.toList, ?_, ?_⟩
  · rw [q]
  · have : s.data.toList.length = s.size := rfl
    rw [this]
    exact hz
theorem pfx_of (h : DataW.trod enc Tryz.prog W base sp held n 24 l = some x) : ∃ p : Pfx, p.ok ∧ l = [.int .u32 p.addr, .int .i64 p.len] := by
  obtain ⟨hz, -⟩ := open_fields Tryz.underlying24 h
  obtain ⟨m0, y0, e0⟩ := open_field Tryz.underlying24 h 0 22 0 1 rfl k2
  obtain ⟨m1, y1, e1⟩ := open_field Tryz.underlying24 h 1 3 1 1 rfl k1
  obtain ⟨a, qa, ha⟩ := u_of e0
  obtain ⟨b, qb, -⟩ := i_of e1
  rw [k3] at hz
  refine ⟨⟨a, b⟩, ha, ?_⟩
  match l, hz, qa, qb with
  | [c0, c1], _, qa, qb => simp at qa qb; rw [qa, qb]
theorem ports_of (h : DataW.trod enc Tryz.prog W base sp held n 26 l = some x) : ∃ a b : Int, l = [.int .i64 a, .int .i64 b] := by
  obtain ⟨hz, -⟩ := open_fields Tryz.underlying26 h
  obtain ⟨m0, y0, e0⟩ := open_field Tryz.underlying26 h 0 3 0 1 rfl k1
  obtain ⟨m1, y1, e1⟩ := open_field Tryz.underlying26 h 1 3 1 1 rfl k1
  obtain ⟨a, qa, -⟩ := i_of e0
  obtain ⟨b, qb, -⟩ := i_of e1
  rw [k6] at hz
  refine ⟨a, b, ?_⟩
  match l, hz, qa, qb with
  | [c0, c1], _, qa, qb => simp at qa qb; rw [qa, qb]
theorem side_of (h : DataW.trod enc Tryz.prog W base sp held n 28 l = some x) : ∃ s : SideM, l = (sideC s).toList ∧ s.table.length ≤ 9223372036854775807 ∧ s.pfx.ok := by
  obtain ⟨hz, -⟩ := open_fields Tryz.underlying28 h
  obtain ⟨m0, y0, e0⟩ := open_field Tryz.underlying28 h 0 4 0 1 rfl k4
  obtain ⟨m1, y1, e1⟩ := open_field Tryz.underlying28 h 1 9 1 1 rfl k5
  obtain ⟨m2, y2, e2⟩ := open_field Tryz.underlying28 h 2 24 2 2 rfl k3
  obtain ⟨m3, y3, e3⟩ := open_field Tryz.underlying28 h 3 26 4 2 rfl k6
  obtain ⟨a, qa⟩ := b_of e0
  obtain ⟨t, qb, ht⟩ := s_of e1
  obtain ⟨p, hp, qc⟩ := pfx_of e2
  obtain ⟨lo, hi, qd⟩ := ports_of e3
  rw [k7] at hz
  refine ⟨⟨a, t, p, lo, hi⟩, ?_, ht, hp⟩
  match l, hz, qa, qb, qc, qd with
  | [c0, c1, c2, c3, c4, c5], _, qa, qb, qc, qd => simp at qa qb qc qd; rw [qa, qb, qc.1, qc.2, qd.1, qd.2]; rfl
theorem pin_of (h : DataW.trod enc Tryz.prog W base sp held n 30 l = some x) : ∃ s : PinM, l = (pinC s).toList ∧ s.iface.length ≤ 9223372036854775807 ∧ s.gate < 4294967296 := by
  obtain ⟨hz, -⟩ := open_fields Tryz.underlying30 h
  obtain ⟨m0, y0, e0⟩ := open_field Tryz.underlying30 h 0 4 0 1 rfl k4
  obtain ⟨m1, y1, e1⟩ := open_field Tryz.underlying30 h 1 9 1 1 rfl k5
  obtain ⟨m2, y2, e2⟩ := open_field Tryz.underlying30 h 2 22 2 1 rfl k2
  obtain ⟨a, qa⟩ := b_of e0
  obtain ⟨t, qb, ht⟩ := s_of e1
  obtain ⟨p, qc, hp⟩ := u_of e2
  rw [k8] at hz
  refine ⟨⟨a, t, p⟩, ?_, ht, hp⟩
  match l, hz, qa, qb, qc with
  | [c0, c1, c2], _, qa, qb, qc => simp at qa qb qc; rw [qa, qb, qc]; rfl
set_option maxRecDepth 20000 in
theorem rule_of (h : DataW.trod enc Tryz.prog W base sp held n 32 l = some x) : ∃ r : RuleM, l = (ruleC r).toList ∧ Fits r := by
  obtain ⟨hz, -⟩ := open_fields Tryz.underlying32 h
  obtain ⟨m0, y0, e0⟩ := open_field Tryz.underlying32 h 0 4 0 1 rfl k4
  obtain ⟨v0, q0⟩ := b_of e0
  obtain ⟨m1, y1, e1⟩ := open_field Tryz.underlying32 h 1 4 1 1 rfl k4
  obtain ⟨v1, q1⟩ := b_of e1
  obtain ⟨m2, y2, e2⟩ := open_field Tryz.underlying32 h 2 4 2 1 rfl k4
  obtain ⟨v2, q2⟩ := b_of e2
  obtain ⟨m3, y3, e3⟩ := open_field Tryz.underlying32 h 3 9 3 1 rfl k5
  obtain ⟨v3, q3, h3⟩ := s_of e3
  obtain ⟨m4, y4, e4⟩ := open_field Tryz.underlying32 h 4 3 4 1 rfl k1
  obtain ⟨v4, q4, h4⟩ := i_of e4
  obtain ⟨m5, y5, e5⟩ := open_field Tryz.underlying32 h 5 28 5 6 rfl k7
  obtain ⟨v5, q5, h5⟩ := side_of e5
  obtain ⟨m6, y6, e6⟩ := open_field Tryz.underlying32 h 6 28 11 6 rfl k7
  obtain ⟨v6, q6, h6⟩ := side_of e6
  obtain ⟨m7, y7, e7⟩ := open_field Tryz.underlying32 h 7 3 17 1 rfl k1
  obtain ⟨v7, q7, h7⟩ := i_of e7
  obtain ⟨m8, y8, e8⟩ := open_field Tryz.underlying32 h 8 3 18 1 rfl k1
  obtain ⟨v8, q8, h8⟩ := i_of e8
  obtain ⟨m9, y9, e9⟩ := open_field Tryz.underlying32 h 9 3 19 1 rfl k1
  obtain ⟨v9, q9, h9⟩ := i_of e9
  obtain ⟨m10, y10, e10⟩ := open_field Tryz.underlying32 h 10 4 20 1 rfl k4
  obtain ⟨v10, q10⟩ := b_of e10
  obtain ⟨m11, y11, e11⟩ := open_field Tryz.underlying32 h 11 30 21 3 rfl k8
  obtain ⟨v11, q11, h11⟩ := pin_of e11
  obtain ⟨m12, y12, e12⟩ := open_field Tryz.underlying32 h 12 30 24 3 rfl k8
  obtain ⟨v12, q12, h12⟩ := pin_of e12
  obtain ⟨m13, y13, e13⟩ := open_field Tryz.underlying32 h 13 3 27 1 rfl k1
  obtain ⟨v13, q13, h13⟩ := i_of e13
  rw [k9] at hz
  refine ⟨⟨v0, v1, v2, v3, v4, v5, v6, v7, v8, v9, v10, v11, v12, v13⟩, ?_, ⟨h3, h5.1, h5.2, h6.1, h6.2, h11.1, h12.1, h11.2, h12.2, h7⟩⟩
  match l, hz, q0, q1, q2, q3, q4, q5, q6, q7, q8, q9, q10, q11, q12, q13 with
  | [c0, c1, c2, c3, c4, c5, c6, c7, c8, c9, c10, c11, c12, c13, c14, c15, c16, c17, c18, c19, c20, c21, c22, c23, c24, c25, c26, c27], _, q0, q1, q2, q3, q4, q5, q6, q7, q8, q9, q10, q11, q12, q13 =>
    simp [sideC, pinC] at q0 q1 q2 q3 q4 q5 q6 q7 q8 q9 q10 q11 q12 q13
    obtain ⟨a5, a6, a7, a8, a9, a10⟩ := q5
    obtain ⟨a11, a12, a13, a14, a15, a16⟩ := q6
    obtain ⟨a21, a22, a23⟩ := q11
    obtain ⟨a24, a25, a26⟩ := q12
    rw [q0, q1, q2, q3, q4, a5, a6, a7, a8, a9, a10, a11, a12, a13, a14, a15, a16, q7, q8, q9, q10, a21, a22, a23, a24, a25, a26, q13]
    rfl
end
set_option maxRecDepth 20000 in
theorem open_rule {H : Type} {enc : TypeId × Value → H} {W : World} {b : Nat} {v : Value} {d : DataW H} {p : List MemPlace}
    (hv : Value.okWide Tryz.prog W .any b 32 v) (h : DataW.Trod enc Tryz.prog W 0 (fun _ => true) true 32 v d p) : ∃ r : RuleM, Fits r ∧ v = .agg (ruleC r) := by
  obtain ⟨cs, rfl, hsz, k, hk⟩ := open_struct Tryz.underlying32 hv h
  obtain ⟨r, hr, hf⟩ := rule_of hk
  refine ⟨r, hf, ?_⟩
  exact congrArg Value.agg (Array.ext' hr)
end Go.Proofs.YtefhoecdoemgbaaGreatDoor.RwO
