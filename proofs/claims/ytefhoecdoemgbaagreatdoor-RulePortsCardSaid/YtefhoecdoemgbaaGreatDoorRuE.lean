/- '==' of pins, ports, ends and rules; rule.isPin, isSide. -/
import Derived.Test.YtefhoecdoemgbaaGreatDoorRuD
namespace Go.Proofs.YtefhoecdoemgbaaGreatDoor.RuE
open Go Go.RowKit Go.Proofs.YtefhoecdoemgbaaGreatDoor.Ad0 Go.Proofs.YtefhoecdoemgbaaGreatDoor.Ad1 Go.Proofs.YtefhoecdoemgbaaGreatDoor.Ad3 Go.Proofs.YtefhoecdoemgbaaGreatDoor.St0 Go.Proofs.YtefhoecdoemgbaaGreatDoor.St1 Go.Proofs.YtefhoecdoemgbaaGreatDoor.St2 Go.Proofs.YtefhoecdoemgbaaGreatDoor.St3 Go.Proofs.YtefhoecdoemgbaaGreatDoor.St4 Go.Proofs.YtefhoecdoemgbaaGreatDoor.StA Go.Proofs.YtefhoecdoemgbaaGreatDoor.Ru0 Go.Proofs.YtefhoecdoemgbaaGreatDoor.Ru1 Go.Proofs.YtefhoecdoemgbaaGreatDoor.Ru6 Go.Proofs.YtefhoecdoemgbaaGreatDoor.Ru7 Go.Proofs.YtefhoecdoemgbaaGreatDoor.Ru8 Go.Proofs.YtefhoecdoemgbaaGreatDoor.Ru9 Go.Proofs.YtefhoecdoemgbaaGreatDoor.RuB Go.Proofs.YtefhoecdoemgbaaGreatDoor.RuC Go.Proofs.YtefhoecdoemgbaaGreatDoor.RuD
set_option linter.unusedVariables false
set_option linter.unusedSimpArgs false
section
open Go.Proofs.YtefhoecdoemgbaaGreatDoor.Eq

def pinC (p : PinM) : Array Value := #[.bool p.on, .string ⟨p.iface.toArray⟩, .int .u32 (p.gate : Nat)]
theorem lst (x : Wd) : (⟨x.toArray⟩ : ByteArray).toList = x := by rw [toList_data]
theorem fb {d : Nat} {xs ys : Array Value} {f : Field} {fs : List Field} {a b : Bool} {s : Bool} {w : World} (hn : (f.name == "_") = false) (ht : f.type = 4) (ha : xs[f.offset]? = some (.bool a)) (hb : ys[f.offset]? = some (.bool b))
    (hr : (Op.eqFields (d + 1) xs ys fs).run Tryz.prog w = .ok s w) : (Op.eqFields (d + 1) xs ys (f :: fs)).run Tryz.prog w = .ok ((a == b) && s) w := by
  have hu : Tryz.prog.underlying f.type = some .bool := by rw [ht]; exact Tryz.underlying4
  exact eqf_cons hn (part_plain _ _ _ hu rfl ha w) (part_plain _ _ _ hu rfl hb w) (run_equalIn_bool w d _ _ _ hu) hr
theorem fs {d : Nat} {xs ys : Array Value} {f : Field} {fs : List Field} {a b : Wd} {s : Bool} {w : World} (hn : (f.name == "_") = false) (ht : f.type = 9) (ha : xs[f.offset]? = some (.string ⟨a.toArray⟩)) (hb : ys[f.offset]? = some (.string ⟨b.toArray⟩))
    (hr : (Op.eqFields (d + 1) xs ys fs).run Tryz.prog w = .ok s w) : (Op.eqFields (d + 1) xs ys (f :: fs)).run Tryz.prog w = .ok ((a == b) && s) w := by
  have hu : Tryz.prog.underlying f.type = some .string := by rw [ht]; exact Tryz.underlying9
  have h := run_equalIn_string w d f.type (⟨a.toArray⟩ : ByteArray) ⟨b.toArray⟩ hu
  rw [lst, lst] at h
  exact eqf_cons hn (part_plain _ _ _ hu rfl ha w) (part_plain _ _ _ hu rfl hb w) h hr
theorem fi {d : Nat} {xs ys : Array Value} {f : Field} {fs : List Field} {a b : Int} {s : Bool} {w : World} (hn : (f.name == "_") = false) (ht : f.type = 3) (ha : xs[f.offset]? = some (.int .i64 a)) (hb : ys[f.offset]? = some (.int .i64 b))
    (hr : (Op.eqFields (d + 1) xs ys fs).run Tryz.prog w = .ok s w) : (Op.eqFields (d + 1) xs ys (f :: fs)).run Tryz.prog w = .ok ((a == b) && s) w := by
  have hu : Tryz.prog.underlying f.type = some (.int .i64) := by rw [ht]; exact Tryz.underlying3
  exact eqf_cons hn (part_plain _ _ _ hu rfl ha w) (part_plain _ _ _ hu rfl hb w) (run_equalIn_int w d _ .i64 _ _ _ hu) hr
theorem fu {d : Nat} {xs ys : Array Value} {f : Field} {fs : List Field} {a b : Nat} {s : Bool} {w : World} (hn : (f.name == "_") = false) (ht : f.type = 22) (ha : xs[f.offset]? = some (.int .u32 (a : Nat))) (hb : ys[f.offset]? = some (.int .u32 (b : Nat)))
    (hr : (Op.eqFields (d + 1) xs ys fs).run Tryz.prog w = .ok s w) : (Op.eqFields (d + 1) xs ys (f :: fs)).run Tryz.prog w = .ok ((a == b) && s) w := by
  have hu : Tryz.prog.underlying f.type = some (.int .u32) := by rw [ht]; exact Tryz.underlying22
  have h := run_equalIn_int w d f.type .u32 .u32 (a : Int) (b : Int) hu
  have e : ((a : Int) == (b : Int)) = (a == b) := by rw [Bool.eq_iff_iff]; simp; omega
  rw [e] at h
  exact eqf_cons hn (part_plain _ _ _ hu rfl ha w) (part_plain _ _ _ hu rfl hb w) h hr
/-- A field that is a struct. -/
theorem fr {d : Nat} {xs ys : Array Value} {f : Field} {fs : List Field} {T n : Nat} {ff : Array Field} {a b : Array Value} {r s : Bool} {w : World} (hn : (f.name == "_") = false) (ht : f.type = T) (hu : Tryz.prog.underlying T = some (.struct ff)) (hi : (Tryz.prog.info? T).map (·.size) = some n) (ha : xs.extract f.offset (f.offset + n) = a) (hb : ys.extract f.offset (f.offset + n) = b)
    (he : (Op.equalIn d T (.agg a) (.agg b)).run Tryz.prog w = .ok r w) (hr : (Op.eqFields d xs ys fs).run Tryz.prog w = .ok s w) : (Op.eqFields d xs ys (f :: fs)).run Tryz.prog w = .ok (r && s) w := by
  subst ha hb ht
  exact eqf_cons hn (part_row _ _ _ hu rfl hi w) (part_row _ _ _ hu rfl hi w) he hr
theorem equalIn_pin (d : Nat) (p q : PinM) (W : World) : (Op.equalIn (d + 2) 30 (.agg (pinC p)) (.agg (pinC q))).run Tryz.prog W = .ok (decide (p = q)) W := by
  have e : decide (p = q) = ((p.on == q.on) && ((p.iface == q.iface) && ((p.gate == q.gate) && true))) := by
    obtain ⟨a, b, c⟩ := p
    obtain ⟨a', b', c'⟩ := q
    rw [Bool.eq_iff_iff]
    simp
  rw [e]
  exact eq_struct Tryz.underlying30 (by kernel_rfl) (fb (by rfl) rfl rfl rfl (fs (by rfl) rfl rfl rfl (fu (by rfl) rfl rfl rfl eqf_nil)))
theorem equalIn_ports (d : Nat) (a b a' b' : Int) (W : World) : (Op.equalIn (d + 2) 26 (.agg #[.int .i64 a, .int .i64 b]) (.agg #[.int .i64 a', .int .i64 b'])).run Tryz.prog W = .ok ((a == a') && ((b == b') && true)) W :=
  eq_struct Tryz.underlying26 (by kernel_rfl) (fi (by rfl) rfl rfl rfl (fi (by rfl) rfl rfl rfl eqf_nil))
theorem ex_pfx (p : SideM) : (sideC p).extract 2 (2 + 2) = #[.int .u32 (p.pfx.addr : Nat), .int .i64 p.pfx.len] := by
  unfold sideC; simp
theorem ex_ports (p : SideM) : (sideC p).extract 4 (4 + 2) = #[.int .i64 p.low, .int .i64 p.high] := by
  unfold sideC; simp
theorem ex_frm (p : RuleM) : (ruleC p).extract 5 (5 + 6) = sideC p.frm := by
  unfold ruleC sideC; simp
theorem ex_dst (p : RuleM) : (ruleC p).extract 11 (11 + 6) = sideC p.dst := by
  unfold ruleC sideC; simp
theorem ex_route (p : RuleM) : (ruleC p).extract 21 (21 + 3) = pinC p.routeTo := by
  unfold ruleC pinC; simp
theorem ex_reply (p : RuleM) : (ruleC p).extract 24 (24 + 3) = pinC p.replyTo := by
  unfold ruleC pinC; simp
theorem side_dec (p q : SideM) : decide (p = q) = ((p.any == q.any) && ((p.table == q.table) && (decide (p.pfx = q.pfx) && (((p.low == q.low) && ((p.high == q.high) && true)) && true)))) := by
  obtain ⟨a, b, c, e, f⟩ := p
  obtain ⟨a', b', c', e', f'⟩ := q
  rw [Bool.eq_iff_iff]
  simp
theorem rule_dec (p q : RuleM) : decide (p = q) = ((p.pass == q.pass) && ((p.ret == q.ret) && ((p.quick == q.quick) && ((p.on == q.on) && ((p.proto == q.proto) && (decide (p.frm = q.frm) && (decide (p.dst = q.dst) &&
      ((p.set == q.set) && ((p.mask == q.mask) && ((p.typ == q.typ) && ((p.keep == q.keep) && (decide (p.routeTo = q.routeTo) && (decide (p.replyTo = q.replyTo) && ((p.table == q.table) && true)))))))))))))) := by
  obtain ⟨a1, a2, a3, a4, a5, a6, a7, a8, a9, a10, a11, a12, a13, a14⟩ := p
  obtain ⟨b1, b2, b3, b4, b5, b6, b7, b8, b9, b10, b11, b12, b13, b14⟩ := q
  rw [Bool.eq_iff_iff]
  simp only [decide_eq_true_eq, RuleM.mk.injEq, Bool.and_eq_true, beq_iff_eq, and_true]
theorem equalIn_side (d : Nat) (p q : SideM) (W : World) : (Op.equalIn (d + 3) 28 (.agg (sideC p)) (.agg (sideC q))).run Tryz.prog W = .ok (decide (p = q)) W := by
  rw [side_dec]
  exact eq_struct Tryz.underlying28 (by kernel_rfl) (fb (by rfl) rfl rfl rfl (fs (by rfl) rfl rfl rfl (fr (by rfl) rfl Tryz.underlying24 (by kernel_rfl) (ex_pfx p) (ex_pfx q) (equalIn_pfx d p.pfx q.pfx W)
    (fr (by rfl) rfl Tryz.underlying26 (by kernel_rfl) (ex_ports p) (ex_ports q) (equalIn_ports d _ _ _ _ W) eqf_nil))))
set_option maxHeartbeats 1000000 in
theorem equalIn_rule (d : Nat) (p q : RuleM) (W : World) : (Op.equalIn (d + 4) 32 (.agg (ruleC p)) (.agg (ruleC q))).run Tryz.prog W = .ok (decide (p = q)) W := by
  rw [rule_dec]
  exact eq_struct Tryz.underlying32 (by kernel_rfl) (fb (by rfl) rfl (rc0 p) (rc0 q) (fb (by rfl) rfl (rc1 p) (rc1 q) (fb (by rfl) rfl (rc2 p) (rc2 q) (fs (by rfl) rfl (rc3 p) (rc3 q) (fi (by rfl) rfl (rc4 p) (rc4 q)
    (fr (by rfl) rfl Tryz.underlying28 (by kernel_rfl) (ex_frm p) (ex_frm q) (equalIn_side d p.frm q.frm W) (fr (by rfl) rfl Tryz.underlying28 (by kernel_rfl) (ex_dst p) (ex_dst q) (equalIn_side d p.dst q.dst W)
    (fi (by rfl) rfl (rc17 p) (rc17 q) (fi (by rfl) rfl (rc18 p) (rc18 q) (fi (by rfl) rfl (rc19 p) (rc19 q) (fb (by rfl) rfl (rc20 p) (rc20 q)
    (fr (by rfl) rfl Tryz.underlying30 (by kernel_rfl) (ex_route p) (ex_route q) (equalIn_pin (d + 1) p.routeTo q.routeTo W) (fr (by rfl) rfl Tryz.underlying30 (by kernel_rfl) (ex_reply p) (ex_reply q) (equalIn_pin (d + 1) p.replyTo q.replyTo W) (fi (by rfl) rfl (rc27 p) (rc27 q) eqf_nil))))))))))))))
theorem eql_pin (p q : PinM) (W : World) : (binOp .eql 30 (.agg (pinC p)) (.agg (pinC q))).run Tryz.prog W = .ok (.bool (decide (p = q))) W := eql_struct (equalIn_pin 9998 p q W)
theorem eql_ports (a b a' b' : Int) (W : World) : (binOp .eql 26 (.agg #[.int .i64 a, .int .i64 b]) (.agg #[.int .i64 a', .int .i64 b'])).run Tryz.prog W = .ok (.bool ((a == a') && ((b == b') && true))) W := eql_struct (equalIn_ports 9998 _ _ _ _ W)
theorem eql_rule (p q : RuleM) (W : World) : (binOp .eql 32 (.agg (ruleC p)) (.agg (ruleC q))).run Tryz.prog W = .ok (.bool (decide (p = q))) W := eql_struct (equalIn_rule 9996 p q W)
end
set_option maxHeartbeats 1000000 in
theorem isPin_any (p : PinM) (hs : p.iface.length ≤ 9223372036854775807) (w : World) :
    Calls Tryz.prog 53 #[.agg (pinC p)] w fun e w' => e = .returned (.bool (pinP p)) ∧ Below w.heap.size w w' := by
  have KN := Lib.hid (fun W => name_any p.iface hs W)
  obtain ⟨on, iface, gate⟩ := p
  unfold pinP pinC
  dsimp only at KN ⊢
  cases on
  all_goals
    cases hn : nameL iface
    all_goals
      rw [hn] at KN
      go_enter Tryz.func53, Tryz.ntmps53
      go_wp2_with (go_at_call 12; refine (KN.out _).mono ?_; rintro e w1 ⟨rfl, hb1⟩; have HB1 := Lib.hid (bstep (bnew w _) hb1 (bnew w _).size); obtain ⟨c1, f1⟩ := bcell hb1; clear hb1)
      all_goals go_ret
      all_goals first | exact ⟨by simp_all, bnew _ _⟩ | exact ⟨by simp_all, HB1.out⟩
end Go.Proofs.YtefhoecdoemgbaaGreatDoor.RuE
