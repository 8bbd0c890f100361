/- The laws' small functions: Same, heavy; rules that lie in memory. -/
import Derived.Test.YtefhoecdoemgbaaGreatDoorRuJ
import Derived.Test.YtefhoecdoemgbaaGreatDoorRuS
import Derived.Test.YtefhoecdoemgbaaGreatDoorRuW
import Derived.Deep.DeepCutAuto
namespace Go.Proofs.YtefhoecdoemgbaaGreatDoor.RuY
open Go Go.RowKit Go.Proofs.YtefhoecdoemgbaaGreatDoor.Ad0 Go.Proofs.YtefhoecdoemgbaaGreatDoor.Ru0 Go.Proofs.YtefhoecdoemgbaaGreatDoor.Ad1 Go.Proofs.YtefhoecdoemgbaaGreatDoor.St0 Go.Proofs.YtefhoecdoemgbaaGreatDoor.St1 Go.Proofs.YtefhoecdoemgbaaGreatDoor.St2 Go.Proofs.YtefhoecdoemgbaaGreatDoor.St3 Go.Proofs.YtefhoecdoemgbaaGreatDoor.Ru1 Go.Proofs.YtefhoecdoemgbaaGreatDoor.Ru2 Go.Proofs.YtefhoecdoemgbaaGreatDoor.B1 Go.Proofs.YtefhoecdoemgbaaGreatDoor.Ad3 Go.Proofs.YtefhoecdoemgbaaGreatDoor.St4 Go.Proofs.YtefhoecdoemgbaaGreatDoor.St5 Go.Proofs.YtefhoecdoemgbaaGreatDoor.St7 Go.Proofs.YtefhoecdoemgbaaGreatDoor.St8 Go.Proofs.YtefhoecdoemgbaaGreatDoor.St9 Go.Proofs.YtefhoecdoemgbaaGreatDoor.StC Go.Proofs.YtefhoecdoemgbaaGreatDoor.Ru3 Go.Proofs.YtefhoecdoemgbaaGreatDoor.Ru6 Go.Proofs.YtefhoecdoemgbaaGreatDoor.Ru7 Go.Proofs.YtefhoecdoemgbaaGreatDoor.Ru4 Go.Proofs.YtefhoecdoemgbaaGreatDoor.Ru5 Go.Proofs.YtefhoecdoemgbaaGreatDoor.St6 Go.Proofs.YtefhoecdoemgbaaGreatDoor.StA Go.Proofs.YtefhoecdoemgbaaGreatDoor.Ru8 Go.Proofs.YtefhoecdoemgbaaGreatDoor.Ru9 Go.Proofs.YtefhoecdoemgbaaGreatDoor.RuA Go.Proofs.YtefhoecdoemgbaaGreatDoor.RuB Go.Proofs.YtefhoecdoemgbaaGreatDoor.RuC Go.Proofs.YtefhoecdoemgbaaGreatDoor.RuD Go.Proofs.YtefhoecdoemgbaaGreatDoor.RuE Go.Proofs.YtefhoecdoemgbaaGreatDoor.RuF Go.Proofs.YtefhoecdoemgbaaGreatDoor.RuG Go.Proofs.YtefhoecdoemgbaaGreatDoor.RuH Go.Proofs.YtefhoecdoemgbaaGreatDoor.RuI Go.Proofs.YtefhoecdoemgbaaGreatDoor.RuJ Go.Proofs.YtefhoecdoemgbaaGreatDoor.Ad2 Go.Proofs.YtefhoecdoemgbaaGreatDoor.RuQ Go.Proofs.YtefhoecdoemgbaaGreatDoor.RuR Go.Proofs.YtefhoecdoemgbaaGreatDoor.RuS Go.Proofs.YtefhoecdoemgbaaGreatDoor.RuT Go.Proofs.YtefhoecdoemgbaaGreatDoor.RuW
set_option linter.unusedVariables false
set_option linter.unusedSimpArgs false

/-- A rule that lies in a block. -/
def Box (W : World) (g : Nat) (r : RuleM) : Prop := W.heap[g]? = some (.cells (ruleC r) 32 (0, 0))
theorem Box.below {W W' : World} {g : Nat} {r : RuleM} (h : Box W g r) (hb : Below W.heap.size W W') : Box W' g r := (hb.block _ (blk_lt' h)).trans h
/-- What a walk keeps: what lay below is as it was, the library's variables stand. -/
structure Lo (w W : World) : Prop where
  low : Below w.heap.size w W
  lib : LibOK W
theorem Lo.below {w W W' : World} (h : Lo w W) (hb : Below W.heap.size W W') : Lo w W' := ⟨bstep h.low hb h.low.size, h.lib.below hb⟩
theorem Lo.new {w : World} (h : LibOK w) (o : Obj) : Lo w (w.alloc o) := ⟨bnew w o, h.below (bnew w o)⟩
theorem box_new (W : World) (r r0 : RuleM) : Box ((W.alloc (.cells (ruleC r0) 32)).setCells W.heap.size 0 (ruleC r).toList) W.heap.size r := by
  have h := Mem.puts_row (ruleC r).toList 0 (heap_alloc_new W (.cells (ruleC r0) 32))
  rw [put_all] at h
  exact h
theorem below_new (W : World) (r r0 : RuleM) : Below W.heap.size W ((W.alloc (.cells (ruleC r0) 32)).setCells W.heap.size 0 (ruleC r).toList) := Mem.puts_below (bnew W _) (Nat.le_refl _) _ 0
theorem info32 (r : RuleM) : (Tryz.prog.info? 32).map (·.size) = some (ruleC r).size := by kernel_rfl

set_option maxRecDepth 20000 in
theorem same_any (p q : RuleM) (w : World) : Calls Tryz.prog 22 #[.agg (ruleC p), .agg (ruleC q)] w fun e w' => e = .returned (.bool (decide (p = q))) ∧ Below w.heap.size w w' := by
  have HE := Lib.hid (fun W => eql_rule p q W)
  have HI := Lib.hid (info32 p)
  have HJ := Lib.hid (info32 q)
  have HB := Lib.hid (bnew2 w (.cells (ruleC p) 32) (.cells (ruleC q) 32))
  have HP := Lib.hid (heap_alloc2_old w (.cells (ruleC p) 32) (.cells (ruleC q) 32))
  have HQ := Lib.hid (heap_alloc2_new w (.cells (ruleC p) 32) (.cells (ruleC q) 32))
  generalize hc : ruleC p = cp at *
  generalize hd : ruleC q = cq at *
  clear hc hd
  have he := HE.out
  go_enter Tryz.func22, Tryz.ntmps22
  go_wp2_with (first
    | ((with_reducible refine Mem.load_row w.heap.size ?_ HP.out Tryz.underlying32 HI.out ?_ ?_); rfl; rfl)
    | ((with_reducible refine Mem.load_row (w.heap.size + 1) ?_ HQ.out Tryz.underlying32 HJ.out ?_ ?_); rfl; rfl))
  go_ret
  exact ⟨rfl, HB.out⟩
set_option maxRecDepth 20000 in
theorem rsame_any (p q : RuleM) (w : World) : Calls Tryz.prog 11 #[.agg (ruleC p), .agg (ruleC q)] w fun e w' => e = .returned (.bool (decide (p = q))) ∧ Below w.heap.size w w' := by
  have HE := Lib.hid (fun W => eql_rule p q W)
  have HI := Lib.hid (info32 p)
  have HJ := Lib.hid (info32 q)
  have HB := Lib.hid (bnew2 w (.cells (ruleC p) 32) (.cells (ruleC q) 32))
  have HP := Lib.hid (heap_alloc2_old w (.cells (ruleC p) 32) (.cells (ruleC q) 32))
  have HQ := Lib.hid (heap_alloc2_new w (.cells (ruleC p) 32) (.cells (ruleC q) 32))
  generalize hc : ruleC p = cp at *
  generalize hd : ruleC q = cq at *
  clear hc hd
  have he := HE.out
  go_enter Tryz.func11, Tryz.ntmps11
  go_wp2_with (first
    | ((with_reducible refine Mem.load_row w.heap.size ?_ HP.out Tryz.underlying32 HI.out ?_ ?_); rfl; rfl)
    | ((with_reducible refine Mem.load_row (w.heap.size + 1) ?_ HQ.out Tryz.underlying32 HJ.out ?_ ?_); rfl; rfl))
  go_ret
  exact ⟨rfl, HB.out⟩

/-- The bytes that are looked at. -/
def bytesR (r : RuleM) : Nat := r.on.length + r.frm.table.length + r.dst.table.length + r.routeTo.iface.length + r.replyTo.iface.length
set_option maxRecDepth 20000 in
theorem heavy_any (r : RuleM) (h : bytesR r ≤ 9223372036854775807) (w : World) : Calls Tryz.prog 15 #[.agg (ruleC r)] w fun e w' => e = .returned (.bool (decide (400 < bytesR r))) ∧ Below w.heap.size w w' := by
  have HB := Lib.hid (bnew w (.cells (ruleC r) 32))
  have hr := heap_alloc_new w (.cells (ruleC r) 32)
  have e3 := cell_of_row _ _ 3 _ _ _ hr
  have e6 := cell_of_row _ _ 6 _ _ _ hr
  have e12 := cell_of_row _ _ 12 _ _ _ hr
  have e22 := cell_of_row _ _ 22 _ _ _ hr
  have e25 := cell_of_row _ _ 25 _ _ _ hr
  rw [rc3] at e3
  rw [rc6] at e6
  rw [rc12] at e12
  rw [rc22] at e22
  rw [rc25] at e25
  have z3 := wd_size r.on
  have z6 := wd_size r.frm.table
  have z12 := wd_size r.dst.table
  have z22 := wd_size r.routeTo.iface
  have z25 := wd_size r.replyTo.iface
  have hd : decide (400 < bytesR r) = decide ((400 : Int) < (((((⟨r.on.toArray⟩ : ByteArray).size : Int) + (⟨r.frm.table.toArray⟩ : ByteArray).size) + (⟨r.dst.table.toArray⟩ : ByteArray).size) + (⟨r.routeTo.iface.toArray⟩ : ByteArray).size) + (⟨r.replyTo.iface.toArray⟩ : ByteArray).size) := by
    rw [z3, z6, z12, z22, z25, decide_eq_decide]
    unfold bytesR
    omega
  have hs : (((((⟨r.on.toArray⟩ : ByteArray).size : Int) + (⟨r.frm.table.toArray⟩ : ByteArray).size) + (⟨r.dst.table.toArray⟩ : ByteArray).size) + (⟨r.routeTo.iface.toArray⟩ : ByteArray).size) + (⟨r.replyTo.iface.toArray⟩ : ByteArray).size ≤ 9223372036854775807 := by
    rw [z3, z6, z12, z22, z25]
    unfold bytesR at h
    omega
  rw [hd]
  clear hd z3 z6 z12 z22 z25 h hr
  generalize (⟨r.on.toArray⟩ : ByteArray) = s3 at *
  generalize (⟨r.frm.table.toArray⟩ : ByteArray) = s6 at *
  generalize (⟨r.dst.table.toArray⟩ : ByteArray) = s12 at *
  generalize (⟨r.routeTo.iface.toArray⟩ : ByteArray) = s22 at *
  generalize (⟨r.replyTo.iface.toArray⟩ : ByteArray) = s25 at *
  go_enter Tryz.func15, Tryz.ntmps15
  go_wp2_with fail
  go_ret
  exact ⟨rfl, HB.out⟩
/-- A rule's text. -/
def printed (r : RuleM) : Wd := if ruleR r then spaced (tokens r) else []
/-- rule.Print's contract. -/
def PrintSaid : Prop := ∀ (r : RuleM), Fits r → ∀ (w : World), LibOK w → Calls Tryz.prog 17 #[.agg (ruleC r)] w fun e w' => e = .returned (.string ⟨(printed r).toArray⟩) ∧ Below w.heap.size w w'
/-- castellanref14.Print's contract. -/
def RPrintSaid : Prop := ∀ (r : RuleM), Fits r → ∀ (w : World), LibOK w → Calls Tryz.prog 21 #[.agg (ruleC r)] w fun e w' => e = .returned (.string ⟨(printed r).toArray⟩) ∧ Below w.heap.size w w'
/-- castellanref14.Parse's contract. -/
def ReadSaid : Prop := ∀ (s : ByteArray), s.size < 4294967281 → ∀ (w : World), LibOK w → Calls Tryz.prog 10 #[.string s] w fun e w' => e = .returned (ruleV (ruleOfR (wordsL s.data.toList))) ∧ Below w.heap.size w w'
/-- What a parse answers, told apart. -/
def ruleE (r : Option RuleM) : Int := if r.isSome then 0 else 2
theorem ruleV_eq (x : Option RuleM) : ruleV x = .tuple #[.agg (ruleC (x.getD {})), .int .i64 (ruleE x)] := by cases x <;> rfl
end Go.Proofs.YtefhoecdoemgbaaGreatDoor.RuY
/- heavy, whatever the rule. -/
namespace Go.Proofs.YtefhoecdoemgbaaGreatDoor.RuYa
open Go Go.RowKit Go.Proofs.YtefhoecdoemgbaaGreatDoor.Ad0 Go.Proofs.YtefhoecdoemgbaaGreatDoor.Ru0 Go.Proofs.YtefhoecdoemgbaaGreatDoor.Ad1 Go.Proofs.YtefhoecdoemgbaaGreatDoor.St0 Go.Proofs.YtefhoecdoemgbaaGreatDoor.St1 Go.Proofs.YtefhoecdoemgbaaGreatDoor.St2 Go.Proofs.YtefhoecdoemgbaaGreatDoor.St3 Go.Proofs.YtefhoecdoemgbaaGreatDoor.Ru1 Go.Proofs.YtefhoecdoemgbaaGreatDoor.Ru2 Go.Proofs.YtefhoecdoemgbaaGreatDoor.B1 Go.Proofs.YtefhoecdoemgbaaGreatDoor.Ad3 Go.Proofs.YtefhoecdoemgbaaGreatDoor.St4 Go.Proofs.YtefhoecdoemgbaaGreatDoor.St5 Go.Proofs.YtefhoecdoemgbaaGreatDoor.St7 Go.Proofs.YtefhoecdoemgbaaGreatDoor.St8 Go.Proofs.YtefhoecdoemgbaaGreatDoor.St9 Go.Proofs.YtefhoecdoemgbaaGreatDoor.StC Go.Proofs.YtefhoecdoemgbaaGreatDoor.Ru3 Go.Proofs.YtefhoecdoemgbaaGreatDoor.Ru6 Go.Proofs.YtefhoecdoemgbaaGreatDoor.Ru7 Go.Proofs.YtefhoecdoemgbaaGreatDoor.Ru4 Go.Proofs.YtefhoecdoemgbaaGreatDoor.Ru5 Go.Proofs.YtefhoecdoemgbaaGreatDoor.St6 Go.Proofs.YtefhoecdoemgbaaGreatDoor.StA Go.Proofs.YtefhoecdoemgbaaGreatDoor.Ru8 Go.Proofs.YtefhoecdoemgbaaGreatDoor.Ru9 Go.Proofs.YtefhoecdoemgbaaGreatDoor.RuA Go.Proofs.YtefhoecdoemgbaaGreatDoor.RuB Go.Proofs.YtefhoecdoemgbaaGreatDoor.RuC Go.Proofs.YtefhoecdoemgbaaGreatDoor.RuD Go.Proofs.YtefhoecdoemgbaaGreatDoor.RuE Go.Proofs.YtefhoecdoemgbaaGreatDoor.RuF Go.Proofs.YtefhoecdoemgbaaGreatDoor.RuG Go.Proofs.YtefhoecdoemgbaaGreatDoor.RuH Go.Proofs.YtefhoecdoemgbaaGreatDoor.RuI Go.Proofs.YtefhoecdoemgbaaGreatDoor.RuJ Go.Proofs.YtefhoecdoemgbaaGreatDoor.Ad2 Go.Proofs.YtefhoecdoemgbaaGreatDoor.RuQ Go.Proofs.YtefhoecdoemgbaaGreatDoor.RuR Go.Proofs.YtefhoecdoemgbaaGreatDoor.RuS Go.Proofs.YtefhoecdoemgbaaGreatDoor.RuT Go.Proofs.YtefhoecdoemgbaaGreatDoor.RuW Go.Proofs.YtefhoecdoemgbaaGreatDoor.RuY
set_option linter.unusedVariables false
set_option linter.unusedSimpArgs false
/-- Are there more bytes than are looked at? As it is reckoned. -/
def heavyF (r : RuleM) : Bool := decide (400 < wrap64 (wrap64 (wrap64 (wrap64 (((⟨r.on.toArray⟩ : ByteArray).size : Int) + (⟨r.frm.table.toArray⟩ : ByteArray).size) + (⟨r.dst.table.toArray⟩ : ByteArray).size) + (⟨r.routeTo.iface.toArray⟩ : ByteArray).size) + (⟨r.replyTo.iface.toArray⟩ : ByteArray).size))
set_option maxRecDepth 20000 in
theorem heavy_all (r : RuleM) (w : World) : Calls Tryz.prog 15 #[.agg (ruleC r)] w fun e w' => e = .returned (.bool (heavyF r)) ∧ Below w.heap.size w w' := by
  have HB := Lib.hid (bnew w (.cells (ruleC r) 32))
  have hr := heap_alloc_new w (.cells (ruleC r) 32)
  have e3 := cell_of_row _ _ 3 _ _ _ hr
  have e6 := cell_of_row _ _ 6 _ _ _ hr
  have e12 := cell_of_row _ _ 12 _ _ _ hr
  have e22 := cell_of_row _ _ 22 _ _ _ hr
  have e25 := cell_of_row _ _ 25 _ _ _ hr
  rw [rc3] at e3
  rw [rc6] at e6
  rw [rc12] at e12
  rw [rc22] at e22
  rw [rc25] at e25
  clear hr
  unfold heavyF
  generalize (⟨r.on.toArray⟩ : ByteArray) = s3 at *
  generalize (⟨r.frm.table.toArray⟩ : ByteArray) = s6 at *
  generalize (⟨r.dst.table.toArray⟩ : ByteArray) = s12 at *
  generalize (⟨r.routeTo.iface.toArray⟩ : ByteArray) = s22 at *
  generalize (⟨r.replyTo.iface.toArray⟩ : ByteArray) = s25 at *
  go_enter Tryz.func15, Tryz.ntmps15
  go_wp2_with fail
  go_ret
  exact ⟨rfl, HB.out⟩
end Go.Proofs.YtefhoecdoemgbaaGreatDoor.RuYa
/- known: a rule of one address is printed as it should. -/
namespace Go.Proofs.YtefhoecdoemgbaaGreatDoor.RuZ
open Go Go.RowKit Go.Proofs.YtefhoecdoemgbaaGreatDoor.Ad0 Go.Proofs.YtefhoecdoemgbaaGreatDoor.Ru0 Go.Proofs.YtefhoecdoemgbaaGreatDoor.Ad1 Go.Proofs.YtefhoecdoemgbaaGreatDoor.St0 Go.Proofs.YtefhoecdoemgbaaGreatDoor.St1 Go.Proofs.YtefhoecdoemgbaaGreatDoor.St2 Go.Proofs.YtefhoecdoemgbaaGreatDoor.St3 Go.Proofs.YtefhoecdoemgbaaGreatDoor.Ru1 Go.Proofs.YtefhoecdoemgbaaGreatDoor.Ru2 Go.Proofs.YtefhoecdoemgbaaGreatDoor.B1 Go.Proofs.YtefhoecdoemgbaaGreatDoor.Ad3 Go.Proofs.YtefhoecdoemgbaaGreatDoor.St4 Go.Proofs.YtefhoecdoemgbaaGreatDoor.St5 Go.Proofs.YtefhoecdoemgbaaGreatDoor.St7 Go.Proofs.YtefhoecdoemgbaaGreatDoor.St8 Go.Proofs.YtefhoecdoemgbaaGreatDoor.St9 Go.Proofs.YtefhoecdoemgbaaGreatDoor.StC Go.Proofs.YtefhoecdoemgbaaGreatDoor.Ru3 Go.Proofs.YtefhoecdoemgbaaGreatDoor.Ru6 Go.Proofs.YtefhoecdoemgbaaGreatDoor.Ru7 Go.Proofs.YtefhoecdoemgbaaGreatDoor.Ru4 Go.Proofs.YtefhoecdoemgbaaGreatDoor.Ru5 Go.Proofs.YtefhoecdoemgbaaGreatDoor.St6 Go.Proofs.YtefhoecdoemgbaaGreatDoor.StA Go.Proofs.YtefhoecdoemgbaaGreatDoor.Ru8 Go.Proofs.YtefhoecdoemgbaaGreatDoor.Ru9 Go.Proofs.YtefhoecdoemgbaaGreatDoor.RuA Go.Proofs.YtefhoecdoemgbaaGreatDoor.RuB Go.Proofs.YtefhoecdoemgbaaGreatDoor.RuC Go.Proofs.YtefhoecdoemgbaaGreatDoor.RuD Go.Proofs.YtefhoecdoemgbaaGreatDoor.RuE Go.Proofs.YtefhoecdoemgbaaGreatDoor.RuF Go.Proofs.YtefhoecdoemgbaaGreatDoor.RuG Go.Proofs.YtefhoecdoemgbaaGreatDoor.RuH Go.Proofs.YtefhoecdoemgbaaGreatDoor.RuI Go.Proofs.YtefhoecdoemgbaaGreatDoor.RuJ Go.Proofs.YtefhoecdoemgbaaGreatDoor.Ad2 Go.Proofs.YtefhoecdoemgbaaGreatDoor.RuQ Go.Proofs.YtefhoecdoemgbaaGreatDoor.RuR Go.Proofs.YtefhoecdoemgbaaGreatDoor.RuS Go.Proofs.YtefhoecdoemgbaaGreatDoor.RuT Go.Proofs.YtefhoecdoemgbaaGreatDoor.RuW Go.Proofs.YtefhoecdoemgbaaGreatDoor.RuY
set_option linter.unusedVariables false
set_option linter.unusedSimpArgs false

def kr : RuleM := { pass := true, frm := { any := true, high := 65535 }, dst := { pfx := ⟨167772161, 32⟩, high := 65535 }, typ := -1 }
def kText : Wd := [112, 97, 115, 115, 32, 102, 114, 111, 109, 32, 97, 110, 121, 32, 116, 111, 32, 49, 48, 46, 48, 46, 48, 46, 49]
def kText2 : Wd := [112, 97, 115, 115, 32, 102, 114, 111, 109, 32, 97, 110, 121, 32, 116, 111, 32, 49, 48, 46, 48, 46, 48, 46, 49, 47, 51, 50]
theorem kr_parse : ruleOf (wordsL kText) = some kr := by decide +kernel
theorem kr_print : printed kr = kText2 := by decide +kernel
theorem kr_fits : Fits kr := ⟨by decide, by decide, by show (0 : Nat) < 4294967296; decide, by decide, by show (167772161 : Nat) < 4294967296; decide, by decide, by decide, by decide, by decide, by decide⟩
set_option maxRecDepth 20000 in
theorem known_any (KS : PrintSaid) (w : World) (hl : LibOK w) : Calls Tryz.prog 14 #[] w fun e w' => e = .returned (.bool true) ∧ Below w.heap.size w w' := by
  have k1 := fun W hL => parseR_any ⟨kText.toArray⟩ (by decide +kernel) W hL
  rw [show (⟨kText.toArray⟩ : ByteArray).data.toList = kText from rfl, kr_parse] at k1
  have K1 : Hid (∀ W, LibOK W → Calls Tryz.prog 9 #[.string ⟨#[112, 97, 115, 115, 32, 102, 114, 111, 109, 32, 97, 110, 121, 32, 116, 111, 32, 49, 48, 46, 48, 46, 48, 46, 49]⟩] W fun e w' => e = .returned (.tuple #[.agg (ruleC kr), .int .i64 0]) ∧ Below W.heap.size W w') := k1
  have k2 := fun W hL => KS kr kr_fits W hL
  rw [kr_print] at k2
  have K2 : Hid (∀ W, LibOK W → Calls Tryz.prog 17 #[.agg (ruleC kr)] W fun e w' => e = .returned (.string ⟨#[112, 97, 115, 115, 32, 102, 114, 111, 109, 32, 97, 110, 121, 32, 116, 111, 32, 49, 48, 46, 48, 46, 48, 46, 49, 47, 51, 50]⟩) ∧ Below W.heap.size W w') := k2
  have HL := Lib.hid hl
  have HI := Lib.hid (info32 kr)
  clear k1 k2 hl
  generalize hkc : ruleC kr = kc at K1 K2 HI
  have HK := Lib.hid hkc
  clear hkc
  go_enter Tryz.func14, Tryz.ntmps14
  go_upto_region 1 with fail
  go_cut [1, 2] (fun s1 s2 wc => ∃ g, s1 = .pointer (some ⟨g, 0, none⟩) ∧ s2 = .int .i64 0 ∧ Box wc g kr ∧ Lo w wc)
  case first =>
    go_wp2_with (first
      | (go_at_call 9; (with_reducible refine (K1.out _ HL.out).mono ?_); rintro e w1 ⟨rfl, hb1⟩; have HL1 := Lib.hid (HL.out.below hb1); have HB1 := Lib.hid hb1; have HN := Lib.hid (heap_alloc_new w1 (.cells (ruleC {}) 32)); clear hb1)
      | (refine Mem.store_part w1.heap.size 0 kc ?_ ?_ HN.out ?_ ?_ ?_ ?_ ?_; rfl; rfl; rw [← HK.out]; exact Nat.le_of_ble_eq_true rfl; rw [← HK.out]; kernel_rfl; rw [← HK.out]; exact rule_one _; rfl))
    (try simp only [Act.put])
    go_meet
    case rel =>
      refine ⟨_, rfl, rfl, ?_, ?_⟩
      · rw [← HK.out]; exact box_new w1 kr {}
      · rw [← HK.out]; exact (Lo.mk HB1.out HL1.out).below (below_new w1 kr {})
  case rest =>
    obtain ⟨g, rfl, rfl, hb, hl⟩ := hcut
    unfold Box at hb
    rw [HK.out] at hb
    have HR := Lib.hid hb
    have HO := Lib.hid hl
    clear hb hl
    go_wp2_with (first
      | ((with_reducible refine Mem.load_row g ?_ HR.out Tryz.underlying32 HI.out ?_ ?_); rfl; rfl)
      | (go_at_call 17; (with_reducible refine (K2.out _ HO.out.lib).mono ?_); rintro e w2 ⟨rfl, hb2⟩; have HO := Lib.hid (HO.out.below hb2); clear hb2))
    go_ret
    exact ⟨rfl, HO.out.low⟩
end Go.Proofs.YtefhoecdoemgbaaGreatDoor.RuZ
