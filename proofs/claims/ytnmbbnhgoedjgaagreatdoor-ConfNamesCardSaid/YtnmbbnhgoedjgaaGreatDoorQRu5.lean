/- Rules: what they are, and how their words are read, by the program's way and by the document's way: plain Lean, no program in sight. -/
import Derived.Test.YtnmbbnhgoedjgaaGreatDoorQAd0
import Derived.Test.YtnmbbnhgoedjgaaGreatDoorQStA
import Derived.Lib.ItoaNum
import Derived.Lib.Atoi
import Derived.Lib.SlTrimSet
import Derived.Lib.Split
import Derived.Lib.SplitLaws
import Derived.Lib.CutLaws
import Derived.Lib.FieldsP
import Derived.Lib.DecodeN
namespace Go.Proofs.YtnmbbnhgoedjgaaGreatDoor.Ru0
open Go Go.Proofs.YtnmbbnhgoedjgaaGreatDoor.Ad0
set_option linter.unusedVariables false
set_option linter.unusedSimpArgs false
abbrev Wd := List UInt8
structure SideM where
  any : Bool := false
  table : Wd := []
  pfx : Pfx := ⟨0, 0⟩
  low : Int := 0
  high : Int := 0
  deriving DecidableEq
structure PinM where
  on : Bool := false
  iface : Wd := []
  gate : Nat := 0
  deriving DecidableEq
structure RuleM where
  pass : Bool := false
  ret : Bool := false
  quick : Bool := false
  on : Wd := []
  proto : Int := 0
  frm : SideM := {}
  dst : SideM := {}
  set : Int := 0
  mask : Int := 0
  typ : Int := 0
  keep : Bool := false
  routeTo : PinM := {}
  replyTo : PinM := {}
  table : Int := 0
  deriving DecidableEq
def isSign (b : UInt8) : Bool := decide (97 ≤ b.toNat ∧ b.toNat ≤ 122) || decide (48 ≤ b.toNat ∧ b.toNat ≤ 57)
def nameL (l : Wd) : Bool := !l.isEmpty && decide (l.length ≤ 8) && l.all isSign
def portedF (p : Int) : Bool := p == 6 || p == 17
def allP (s : SideM) : Bool := s.low == 0 && s.high == 65535
/-- May an end be? The document's way. -/
def sideR (s : SideM) (ported : Bool) : Bool :=
  if decide (s.low < 0) || decide (65535 < s.high) || decide (s.high < s.low) || (!ported && !allP s) then false
  else if s.any then decide (s.table = []) && decide (s.pfx = ⟨0, 0⟩) else if s.table ≠ [] then nameL s.table && decide (s.pfx = ⟨0, 0⟩) else isF s.pfx
/-- The program's way. -/
def sideP (s : SideM) (proto : Int) : Bool :=
  if (s.any && (decide (s.table ≠ []) || !decide (s.pfx = ⟨0, 0⟩))) || (decide (s.table ≠ []) && (!nameL s.table || !decide (s.pfx = ⟨0, 0⟩))) || !isF s.pfx then false
  else decide (0 ≤ s.low) && decide (s.low ≤ s.high) && decide (s.high ≤ 65535) && (allP s || portedF proto)
def pinR (p : PinM) : Bool := if p.on then nameL p.iface else decide (p = {})
def pinP (p : PinM) : Bool := (p.on && nameL p.iface) || decide (p = {})
theorem ports_same (a b c d : Bool) (l h : Int) : (decide (0 ≤ l) && decide (l ≤ h) && decide (h ≤ 65535) && (a || b)) = !(decide (l < 0) || decide (65535 < h) || decide (h < l) || (!b && !a)) := by
  rw [Bool.eq_iff_iff]
  cases a <;> cases b <;> simp <;> omega
theorem zero_is : isF ⟨0, 0⟩ = true := by decide +kernel
theorem sides_same (s : SideM) (proto : Int) : sideP s proto = sideR s (portedF proto) := by
  unfold sideP sideR
  rw [ports_same (allP s) (portedF proto) true true]
  generalize (decide (s.low < 0) || decide (65535 < s.high) || decide (s.high < s.low) || (!portedF proto && !allP s)) = q
  by_cases h3 : s.pfx = ⟨0, 0⟩
  · rw [h3, zero_is]
    cases q <;> cases s.any <;> by_cases h2 : s.table = [] <;> cases hn : nameL s.table <;> simp [h2, hn]
  · cases q <;> cases s.any <;> by_cases h2 : s.table = [] <;> cases hn : nameL s.table <;> cases hi : isF s.pfx <;> simp [h2, hn, hi, h3]
theorem pins_same (p : PinM) : pinP p = pinR p := by
  unfold pinP pinR
  cases h : p.on with
  | true =>
    have : decide (p = {}) = false := by
      rw [decide_eq_false_iff_not]
      intro e; rw [e] at h; cases h
    rw [this]; simp
  | false => simp
/-- May a rule be? The document's way. -/
def ruleR (r : RuleM) : Bool :=
  if (r.pass && r.ret) || (!r.pass && (r.keep || r.routeTo.on || r.replyTo.on || !(r.table == 0))) then false
  else if (decide (r.on ≠ []) && !nameL r.on) || (decide (r.proto < 0) || decide (255 < r.proto)) || (!sideR r.frm (portedF r.proto) || !sideR r.dst (portedF r.proto)) then false
  else if (decide (r.mask < 0) || decide (63 < r.mask) || decide (r.set < 0) || !(bits .andNot .i64 r.set r.mask == 0)) || (!(r.proto == 6) && (!(r.mask == 0) || !(r.set == 0))) then false
  else if (decide (r.typ < -1) || decide (255 < r.typ)) || (!(r.proto == 1) && !(r.typ == -1)) then false
  else pinR r.routeTo && pinR r.replyTo && decide (0 ≤ r.table) && decide (r.table < 4)
/-- The program's way. -/
def lookP (r : RuleM) : Bool :=
  decide (0 ≤ r.proto) && decide (r.proto ≤ 255) && (decide (0 ≤ r.mask) && decide (r.mask ≤ 63) && (bits .andNot .i64 r.set r.mask == 0) && (r.mask == 0 || r.proto == 6)) && (decide (-1 ≤ r.typ) && decide (r.typ ≤ 255) && (r.typ == -1 || r.proto == 1))
def passP (r : RuleM) : Bool := r.pass || (!r.keep && !r.routeTo.on && !r.replyTo.on && r.table == 0)
def ruleP (r : RuleM) : Bool :=
  !(r.ret && r.pass) && passP r && (decide (r.on = []) || nameL r.on) && lookP r && sideP r.frm r.proto && sideP r.dst r.proto && pinP r.routeTo && pinP r.replyTo && decide (0 ≤ r.table) && decide (r.table < 4)
theorem bv_sub (a b : BitVec 64) (h : a &&& ~~~b = 0) : a.toNat ≤ b.toNat := by
  have e : a = a &&& b := by
    apply BitVec.eq_of_getLsbD_eq
    intro i hi
    have := congrArg (·.getLsbD i) h
    simp [hi] at this
    simp
    cases ha : a.getLsbD i <;> simp_all
  rw [e, BitVec.toNat_and]
  exact Nat.and_le_right
theorem set_small (s m : Int) (hs : -9223372036854775808 ≤ s) (hs' : s ≤ 9223372036854775807) (h : bits .andNot .i64 s m = 0) (hm : 0 ≤ m) (hm' : m ≤ 63) : 0 ≤ s ∧ s ≤ m := by
  have h1 : IntKind.i64.wrap (((BitVec.ofInt 64 s) &&& ~~~(BitVec.ofInt 64 m)).toNat : Int) = 0 := h
  have h2 : ((BitVec.ofInt 64 s) &&& ~~~(BitVec.ofInt 64 m)).toNat = 0 := by
    have hlt := ((BitVec.ofInt 64 s) &&& ~~~(BitVec.ofInt 64 m)).isLt
    generalize ((BitVec.ofInt 64 s) &&& ~~~(BitVec.ofInt 64 m)).toNat = x at h1 hlt
    simp [IntKind.wrap, IntKind.signed, IntKind.bits] at h1
    split at h1 <;> omega
  have h3 := bv_sub _ _ (BitVec.eq_of_toNat_eq (h2.trans rfl))
  rw [BitVec.toNat_ofInt, BitVec.toNat_ofInt] at h3
  have e : (((2 ^ 64 : Nat) : Int)) = 18446744073709551616 := rfl
  rw [e] at h3
  omega
theorem if_not (c x : Bool) : (if c then false else x) = (!c && x) := by cases c <;> rfl
theorem look_same (r : RuleM) (hs : -9223372036854775808 ≤ r.set) (hs' : r.set ≤ 9223372036854775807) : lookP r = (!(decide (r.proto < 0) || decide (255 < r.proto)) && (!((decide (r.mask < 0) || decide (63 < r.mask) || decide (r.set < 0) || !(bits .andNot .i64 r.set r.mask == 0)) || (!(r.proto == 6) && (!(r.mask == 0) || !(r.set == 0)))) && !((decide (r.typ < -1) || decide (255 < r.typ)) || (!(r.proto == 1) && !(r.typ == -1))))) := by
  have h0 := set_small r.set r.mask hs hs'
  unfold lookP
  generalize bits .andNot .i64 r.set r.mask = b at h0
  rw [Bool.eq_iff_iff]
  simp
  omega
theorem rules_same (r : RuleM) (hs : -9223372036854775808 ≤ r.set) (hs' : r.set ≤ 9223372036854775807) : ruleP r = ruleR r := by
  have h1 := look_same r hs hs'
  unfold ruleP ruleR passP
  rw [sides_same, sides_same, pins_same, pins_same, h1]
  simp only [if_not]
  have h2 : (decide (r.on = []) || nameL r.on) = !(decide (r.on ≠ []) && !nameL r.on) := by by_cases h : r.on = [] <;> simp [h]
  have h3 : (!(r.ret && r.pass) && (r.pass || (!r.keep && !r.routeTo.on && !r.replyTo.on && r.table == 0))) = !((r.pass && r.ret) || (!r.pass && (r.keep || r.routeTo.on || r.replyTo.on || !(r.table == 0)))) := by
    cases r.pass <;> cases r.ret <;> cases r.keep <;> cases r.routeTo.on <;> cases r.replyTo.on <;> simp
  rw [h2, h3]
  simp only [Bool.not_or, Bool.not_not, Bool.and_assoc]
  ac_rfl
end Go.Proofs.YtnmbbnhgoedjgaaGreatDoor.Ru0
/- A rule's words, read: the program's way and the document's way; the two are one. -/
namespace Go.Proofs.YtnmbbnhgoedjgaaGreatDoor.Ru1
open Go Go.Proofs.YtnmbbnhgoedjgaaGreatDoor.St0 Go.Proofs.YtnmbbnhgoedjgaaGreatDoor.St2 Go.Proofs.YtnmbbnhgoedjgaaGreatDoor.St3 Go.Proofs.YtnmbbnhgoedjgaaGreatDoor.Ad0 Go.Proofs.YtnmbbnhgoedjgaaGreatDoor.Ru0
set_option linter.unusedVariables false
set_option linter.unusedSimpArgs false
def wPass : Wd := [112, 97, 115, 115]
def wBlock : Wd := [98, 108, 111, 99, 107]
def wReturn : Wd := [114, 101, 116, 117, 114, 110]
def wQuick : Wd := [113, 117, 105, 99, 107]
def wOn : Wd := [111, 110]
def wProto : Wd := [112, 114, 111, 116, 111]
def wFrom : Wd := [102, 114, 111, 109]
def wTo : Wd := [116, 111]
def wAny : Wd := [97, 110, 121]
def wPort : Wd := [112, 111, 114, 116]
def wFlags : Wd := [102, 108, 97, 103, 115]
def wType : Wd := [116, 121, 112, 101]
def wKeep : Wd := [107, 101, 101, 112]
def wRoute : Wd := [114, 111, 117, 116, 101, 45, 116, 111]
def wReply : Wd := [114, 101, 112, 108, 121, 45, 116, 111]
def wTable : Wd := [116, 97, 98, 108, 101]
def wIcmp : Wd := [105, 99, 109, 112]
def wTcp : Wd := [116, 99, 112]
def wUdp : Wd := [117, 100, 112]
def protoW (n : Int) : Wd := if n = 1 then wIcmp else if n = 6 then wTcp else if n = 17 then wUdp else Lib.itoa n
/-- The words that are left, and whether one was none. -/
structure Ws where
  l : List Wd
  bad : Bool
def takesP (w : Ws) (word : Wd) : Bool × Ws := match w.l with
  | [] => (false, w)
  | h :: t => if w.bad = false ∧ h = word then (true, ⟨t, w.bad⟩) else (false, w)
def takesR (w : Ws) (word : Wd) : Bool × Ws := match w.l with
  | [] => (false, w)
  | h :: t => if h = word then (true, ⟨t, w.bad⟩) else (false, w)
def nextF (w : Ws) : Wd × Ws := match w.l with
  | [] => ([], ⟨[], true⟩)
  | h :: t => (h, ⟨t, w.bad⟩)
def Ws.orBad (w : Ws) (b : Bool) : Ws := ⟨w.l, w.bad || b⟩
/-- A number of at most nine digits. -/
def numP (w : Ws) (s : Wd) : Int × Ws := if okNum 9 s then ((dv s : Nat), w) else (0, ⟨w.l, true⟩)
def numR (w : Ws) (s : Wd) (most : Int) : Int × Ws := if okNum 9 s then ((dv s : Nat), w.orBad (!decide ((dv s : Int) ≤ most))) else (0, ⟨w.l, true⟩)
def protoP (w : Ws) : Int × Ws :=
  let n := nextF w
  if n.1 = wIcmp then (1, n.2) else if n.1 = wTcp then (6, n.2) else if n.1 = wUdp then (17, n.2) else
    let m := numP n.2 n.1
    (m.1, m.2.orBad (m.1 == 0 || decide (protoW m.1 ≠ n.1)))
def protoR (w : Ws) : Int × Ws :=
  let n := nextF w
  if wIcmp = n.1 then (1, n.2) else if wTcp = n.1 then (6, n.2) else if wUdp = n.1 then (17, n.2) else
    let m := numR n.2 n.1 255
    (m.1, m.2.orBad (m.1 == 0 || decide (protoW m.1 ≠ n.1)))
/-- What stands between '<' and '>'. -/
def inner (s : Wd) : Wd := (s.drop 1).take (s.length - 2)
def isTab (s : Wd) : Bool := decide (2 ≤ s.length) && s.head? == some 60 && s.getLast? == some 62
def isTabR (s : Wd) : Bool := decide (2 < s.length) && s.head? == some 60 && s.getLast? == some 62
def pfxOf (r : Option Pfx) : Pfx := r.getD ⟨0, 0⟩
def whoP (w : Ws) : SideM × Ws :=
  let n := nextF w
  if n.1 = wAny then ({ any := true, high := 65535 }, n.2)
  else if isTab n.1 then ({ table := inner n.1, high := 65535 }, n.2.orBad (inner n.1).isEmpty)
  else ({ pfx := pfxOf (prefL n.1), high := 65535 }, n.2.orBad (prefL n.1).isNone)
def whoR (w : Ws) : SideM × Ws :=
  let n := nextF w
  if n.1 = wAny then ({ any := true, high := 65535 }, n.2)
  else if isTabR n.1 then ({ table := inner n.1, high := 65535 }, n.2)
  else ({ pfx := pfxOf (prefL n.1), high := 65535 }, n.2.orBad (prefL n.1).isNone)
def portsP (s : SideM) (w : Ws) : SideM × Ws :=
  let t := takesP w wPort
  if t.1 then
    let n := nextF t.2
    let c := Lib.cut n.1 [58]
    let a := numP n.2 c.1
    if c.2.2 then
      let b := numP a.2 c.2.1
      ({ s with low := a.1, high := b.1 }, b.2.orBad (b.1 == a.1))
    else ({ s with low := a.1, high := a.1 }, a.2)
  else (s, t.2)
def portsR (s : SideM) (w : Ws) : SideM × Ws :=
  let t := takesR w wPort
  if t.1 then
    let n := nextF t.2
    let ps := parts 58 n.1
    let a := numR n.2 (ps.getD 0 []) 65535
    if 1 < ps.length then
      let b := numR a.2 (ps.getD 1 []) 65535
      ({ s with low := a.1, high := b.1 }, (b.2.orBad (b.1 == a.1)).orBad (decide (2 < ps.length)))
    else ({ s with low := a.1, high := a.1 }, a.2.orBad (decide (2 < ps.length)))
  else (s, t.2)
def sideF (w : Ws) : SideM × Ws := let s := whoP w; portsP s.1 s.2
def endF (w : Ws) : SideM × Ws := let s := whoR w; portsR s.1 s.2
def letters : Wd := [70, 83, 82, 80, 65, 85]
def flagsL (n : Nat) : Wd := (List.range 6).filterMap fun i => if n.testBit i then letters[i]? else none
def flagsW (n : Nat) : Wd := if flagsL n = [] then [45] else flagsL n
def bitsF (w : Ws) (s : Wd) : Int × Ws := match (List.range 64).find? fun n => flagsW n == s with
  | some n => ((n : Nat), w)
  | none => (0, ⟨w.l, true⟩)
def pinF (w : Ws) (word : Wd) : PinM × Ws :=
  let t := takesP w word
  if t.1 then
    let n := nextF t.2
    let g := nextF n.2
    (⟨true, n.1, (parseL g.1).getD 0⟩, g.2.orBad (parseL g.1).isNone)
  else ({}, t.2)
def pinD (w : Ws) (word : Wd) : PinM × Ws :=
  let t := takesR w word
  if t.1 then
    let n := nextF t.2
    let g := nextF n.2
    (⟨true, n.1, (parseL g.1).getD 0⟩, g.2.orBad (parseL g.1).isNone)
  else ({}, t.2)
/-- The flags, the program's way. -/
def flagsP (w : Ws) : (Int × Int) × Ws :=
  let t := takesP w wFlags
  if t.1 then
    let n := nextF t.2
    let c := Lib.cut n.1 [47]
    let a := bitsF n.2 c.1
    let b := bitsF a.2 c.2.1
    ((a.1, b.1), b.2.orBad (b.1 == 0))
  else ((0, 0), t.2)
def flagsD (w : Ws) : (Int × Int) × Ws :=
  let t := takesR w wFlags
  if t.1 then
    let n := nextF t.2
    match parts 47 n.1 with
    | [x, y] =>
      let a := bitsF n.2 x
      let b := bitsF a.2 y
      ((a.1, b.1), b.2.orBad (b.1 == 0))
    | _ => ((0, 0), n.2.orBad true)
  else ((0, 0), t.2)
def typeP (w : Ws) : Int × Ws := let t := takesP w wType; if t.1 then let n := nextF t.2; numP n.2 n.1 else (-1, t.2)
def typeR (w : Ws) : Int × Ws := let t := takesR w wType; if t.1 then let n := nextF t.2; numR n.2 n.1 255 else (-1, t.2)
def tableP (w : Ws) : Int × Ws := let t := takesP w wTable; if t.1 then let n := nextF t.2; let m := numP n.2 n.1; (m.1, m.2.orBad (m.1 == 0)) else (0, t.2)
def tableR (w : Ws) : Int × Ws := let t := takesR w wTable; if t.1 then let n := nextF t.2; let m := numR n.2 n.1 3; (m.1, m.2.orBad (m.1 == 0)) else (0, t.2)
def onP (w : Ws) : Wd × Ws := let t := takesP w wOn; if t.1 then let n := nextF t.2; (n.1, n.2.orBad n.1.isEmpty) else ([], t.2)
def onR (w : Ws) : Wd × Ws := let t := takesR w wOn; if t.1 then let n := nextF t.2; (n.1, n.2.orBad n.1.isEmpty) else ([], t.2)
def prP (w : Ws) : Int × Ws := let t := takesP w wProto; if t.1 then protoP t.2 else (0, t.2)
def prR (w : Ws) : Int × Ws := let t := takesR w wProto; if t.1 then protoR t.2 else (0, t.2)
def kwP (w : Ws) (word : Wd) : Ws := let t := takesP w word; t.2.orBad (!t.1)
def kwR (w : Ws) (word : Wd) : Ws := let t := takesR w word; t.2.orBad (!t.1)
def headP (w : Ws) : Bool × Ws :=
  let t := takesP w wPass
  if t.1 then (true, t.2) else
    let b := takesP t.2 wBlock
    (false, ⟨b.2.l, !b.1⟩)
/-! The rest of the reading, from each step on. -/
def endP (r : RuleM) (w : Ws) : Option RuleM := if w.bad || !w.l.isEmpty || !ruleR r then none else some r
def p8 (r : RuleM) (w : Ws) : Option RuleM := let t := tableP w; endP { r with table := t.1 } t.2
def p7 (r : RuleM) (w : Ws) : Option RuleM := let k := takesP w wKeep; let a := pinF k.2 wRoute; let b := pinF a.2 wReply; p8 { r with keep := k.1, routeTo := a.1, replyTo := b.1 } b.2
def p6 (r : RuleM) (w : Ws) : Option RuleM := let t := typeP w; p7 { r with typ := t.1 } t.2
def p5 (r : RuleM) (w : Ws) : Option RuleM := let f := flagsP w; p6 { r with set := f.1.1, mask := f.1.2 } f.2
def p4 (r : RuleM) (w : Ws) : Option RuleM := let t := sideF (kwP w wTo); p5 { r with dst := t.1 } t.2
def p3 (r : RuleM) (w : Ws) : Option RuleM := let t := sideF (kwP w wFrom); p4 { r with frm := t.1 } t.2
def p2 (r : RuleM) (w : Ws) : Option RuleM := let t := prP w; p3 { r with proto := t.1 } t.2
def p1 (r : RuleM) (w : Ws) : Option RuleM := let a := takesP w wReturn; let b := takesP a.2 wQuick; let o := onP b.2; p2 { r with ret := a.1, quick := b.1, on := o.1 } o.2
def ruleOf (l : List Wd) : Option RuleM := let h := headP ⟨l, false⟩; p1 { pass := h.1 } h.2
def r8 (r : RuleM) (w : Ws) : Option RuleM := let t := tableR w; endP { r with table := t.1 } t.2
def r7 (r : RuleM) (w : Ws) : Option RuleM := let k := takesR w wKeep; let a := pinD k.2 wRoute; let b := pinD a.2 wReply; r8 { r with keep := k.1, routeTo := a.1, replyTo := b.1 } b.2
def r6 (r : RuleM) (w : Ws) : Option RuleM := let t := typeR w; r7 { r with typ := t.1 } t.2
def r5 (r : RuleM) (w : Ws) : Option RuleM := let f := flagsD w; r6 { r with set := f.1.1, mask := f.1.2 } f.2
def r4 (r : RuleM) (w : Ws) : Option RuleM := let t := endF (kwR w wTo); r5 { r with dst := t.1 } t.2
def r3 (r : RuleM) (w : Ws) : Option RuleM := let t := endF (kwR w wFrom); r4 { r with frm := t.1 } t.2
def r2 (r : RuleM) (w : Ws) : Option RuleM := let t := prR w; r3 { r with proto := t.1 } t.2
def r1 (r : RuleM) (w : Ws) : Option RuleM := let a := takesR w wReturn; let b := takesR a.2 wQuick; let o := onR b.2; r2 { r with ret := a.1, quick := b.1, on := o.1 } o.2
/-! Once bad, bad. -/
@[simp] theorem orBad_l (w : Ws) (b : Bool) : (w.orBad b).l = w.l := rfl
@[simp] theorem orBad_bad (w : Ws) (b : Bool) : (w.orBad b).bad = (w.bad || b) := rfl
theorem takesP_bad (w : Ws) (x : Wd) (h : w.bad = true) : (takesP w x).2.bad = true := by
  unfold takesP; split <;> (try split) <;> simp_all
theorem takesR_bad (w : Ws) (x : Wd) (h : w.bad = true) : (takesR w x).2.bad = true := by
  unfold takesR; split <;> (try split) <;> simp_all
theorem nextF_bad (w : Ws) (h : w.bad = true) : (nextF w).2.bad = true := by
  unfold nextF; split <;> simp_all
theorem numP_bad (w : Ws) (x : Wd) (h : w.bad = true) : (numP w x).2.bad = true := by
  unfold numP; split <;> simp_all
theorem numR_bad (w : Ws) (x : Wd) (m : Int) (h : w.bad = true) : (numR w x m).2.bad = true := by
  unfold numR; split <;> simp_all
theorem bitsF_bad (w : Ws) (x : Wd) (h : w.bad = true) : (bitsF w x).2.bad = true := by
  unfold bitsF; split <;> simp_all
theorem protoP_bad (w : Ws) (h : w.bad = true) : (protoP w).2.bad = true := by
  have h1 := nextF_bad w h
  have h2 := numP_bad _ (nextF w).1 h1
  unfold protoP; dsimp only; split <;> (try split) <;> (try split) <;> simp_all
theorem protoR_bad (w : Ws) (h : w.bad = true) : (protoR w).2.bad = true := by
  have h1 := nextF_bad w h
  have h2 := numR_bad _ (nextF w).1 255 h1
  unfold protoR; dsimp only; split <;> (try split) <;> (try split) <;> simp_all
end Go.Proofs.YtnmbbnhgoedjgaaGreatDoor.Ru1
/- The program's reading of a rule's words and the document's are one. -/
namespace Go.Proofs.YtnmbbnhgoedjgaaGreatDoor.Ru2
open Go Go.Proofs.YtnmbbnhgoedjgaaGreatDoor.St0 Go.Proofs.YtnmbbnhgoedjgaaGreatDoor.St2 Go.Proofs.YtnmbbnhgoedjgaaGreatDoor.St3 Go.Proofs.YtnmbbnhgoedjgaaGreatDoor.Ad0 Go.Proofs.YtnmbbnhgoedjgaaGreatDoor.Ru0 Go.Proofs.YtnmbbnhgoedjgaaGreatDoor.Ru1
set_option linter.unusedVariables false
set_option linter.unusedSimpArgs false
attribute [local simp] takesP_bad takesR_bad nextF_bad numP_bad numR_bad bitsF_bad protoP_bad protoR_bad
theorem pinF_bad (w : Ws) (x : Wd) (h : w.bad = true) : (pinF w x).2.bad = true := by
  unfold pinF; dsimp only; split <;> simp (maxDischargeDepth := 12) [h]
theorem pinD_bad (w : Ws) (x : Wd) (h : w.bad = true) : (pinD w x).2.bad = true := by
  unfold pinD; dsimp only; split <;> simp (maxDischargeDepth := 12) [h]
theorem tableP_bad (w : Ws) (h : w.bad = true) : (tableP w).2.bad = true := by
  unfold tableP; dsimp only; split <;> simp (maxDischargeDepth := 12) [h]
theorem tableR_bad (w : Ws) (h : w.bad = true) : (tableR w).2.bad = true := by
  unfold tableR; dsimp only; split <;> simp (maxDischargeDepth := 12) [h]
theorem endP_bad (r : RuleM) (w : Ws) (h : w.bad = true) : endP r w = none := by unfold endP; simp [h]
theorem endP_not (r : RuleM) (w : Ws) (h : ruleR r = false) : endP r w = none := by unfold endP; simp [h]
theorem p8_bad (r : RuleM) (w : Ws) (h : w.bad = true) : p8 r w = none := endP_bad _ _ (tableP_bad w h)
theorem p7_bad (r : RuleM) (w : Ws) (h : w.bad = true) : p7 r w = none := p8_bad _ _ (pinF_bad _ _ (pinF_bad _ _ (takesP_bad w _ h)))
theorem r8_bad (r : RuleM) (w : Ws) (h : w.bad = true) : r8 r w = none := endP_bad _ _ (tableR_bad w h)
theorem r7_bad (r : RuleM) (w : Ws) (h : w.bad = true) : r7 r w = none := r8_bad _ _ (pinD_bad _ _ (pinD_bad _ _ (takesR_bad w _ h)))
/-! A number that is too great: the rule may not be, whatever follows. -/
def wideS (s : SideM) : Prop := 65535 < s.low ∨ 65535 < s.high
theorem sideR_wide (s : SideM) (b : Bool) (h : wideS s) : sideR s b = false := by
  unfold sideR
  have : (decide (s.low < 0) || decide (65535 < s.high) || decide (s.high < s.low) || (!b && !allP s)) = true := by
    simp only [Bool.or_eq_true, decide_eq_true_eq]
    unfold wideS at h
    omega
  rw [this]; rfl
theorem ruleR_proto (r : RuleM) (h : 255 < r.proto) : ruleR r = false := by
  unfold ruleR; simp [h]
theorem ruleR_frm (r : RuleM) (h : wideS r.frm) : ruleR r = false := by
  unfold ruleR; rw [sideR_wide _ _ h]; simp
theorem ruleR_dst (r : RuleM) (h : wideS r.dst) : ruleR r = false := by
  unfold ruleR; rw [sideR_wide _ _ h]; simp
theorem ruleR_typ (r : RuleM) (h : 255 < r.typ) : ruleR r = false := by
  unfold ruleR; simp [h]
theorem ruleR_table (r : RuleM) (h : 3 < r.table) : ruleR r = false := by
  unfold ruleR
  have : ¬ r.table < 4 := by omega
  simp [this]
def W8 (r : RuleM) : Prop := 255 < r.proto ∨ wideS r.frm ∨ wideS r.dst ∨ 255 < r.typ
def W6 (r : RuleM) : Prop := 255 < r.proto ∨ wideS r.frm ∨ wideS r.dst
def W4 (r : RuleM) : Prop := 255 < r.proto ∨ wideS r.frm
theorem p8_wide (r : RuleM) (w : Ws) (h : W8 r) : p8 r w = none := by
  refine endP_not _ _ ?_
  rcases h with h | h | h | h
  · exact ruleR_proto _ h
  · exact ruleR_frm _ h
  · exact ruleR_dst _ h
  · exact ruleR_typ _ h
theorem p7_wide (r : RuleM) (w : Ws) (h : W8 r) : p7 r w = none := p8_wide _ _ h
theorem takes_same (w : Ws) (x : Wd) (h : w.bad = false) : takesP w x = takesR w x := by
  unfold takesP takesR; split <;> simp [h]
/-- A number, read in both ways: the same, or too great in the one and none in the other. -/
theorem nums (w : Ws) (s : Wd) (most : Int) : numP w s = numR w s most ∨ (most < (numP w s).1 ∧ (numR w s most).2.bad = true) := by
  unfold numP numR
  by_cases h : okNum 9 s = true
  · simp only [h, if_true]
    by_cases hm : (dv s : Int) ≤ most
    · left; simp [hm, Ws.orBad]
    · right; simp [hm]; omega
  · left; simp [h]
theorem e8 (r : RuleM) (w : Ws) (h : w.bad = false) : p8 r w = r8 r w := by
  unfold p8 r8 tableP tableR
  rw [takes_same w _ h]
  dsimp only
  split
  · rcases nums (nextF (takesR w wTable).2).2 (nextF (takesR w wTable).2).1 3 with e | ⟨e1, e2⟩
    · rw [e]
    · rw [endP_not _ _ (ruleR_table _ e1), endP_bad _ _ (by simp [e2])]
  · rfl
theorem pins_eq (w : Ws) (x : Wd) (h : w.bad = false) : pinF w x = pinD w x := by
  unfold pinF pinD; rw [takes_same w x h]
theorem e7 (r : RuleM) (w : Ws) (h : w.bad = false) : p7 r w = r7 r w := by
  unfold p7 r7
  rw [takes_same w _ h]
  dsimp only
  cases h1 : (takesR w wKeep).2.bad with
  | true => rw [p8_bad _ _ (pinF_bad _ _ (pinF_bad _ _ h1)), r8_bad _ _ (pinD_bad _ _ (pinD_bad _ _ h1))]
  | false =>
    rw [pins_eq _ _ h1]
    cases h2 : (pinD (takesR w wKeep).2 wRoute).2.bad with
    | true => rw [p8_bad _ _ (pinF_bad _ _ h2), r8_bad _ _ (pinD_bad _ _ h2)]
    | false =>
      rw [pins_eq _ _ h2]
      cases h3 : (pinD (pinD (takesR w wKeep).2 wRoute).2 wReply).2.bad with
      | true => rw [p8_bad _ _ h3, r8_bad _ _ h3]
      | false => exact e8 _ _ h3
theorem e7' (r : RuleM) (w : Ws) : p7 r w = r7 r w := by
  cases h : w.bad with
  | true => rw [p7_bad _ _ h, r7_bad _ _ h]
  | false => exact e7 r w h
theorem e6 (r : RuleM) (w : Ws) (h : w.bad = false) : p6 r w = r6 r w := by
  unfold p6 r6 typeP typeR
  rw [takes_same w _ h]
  dsimp only
  split
  · rcases nums (nextF (takesR w wType).2).2 (nextF (takesR w wType).2).1 255 with e | ⟨e1, e2⟩
    · rw [e]; exact e7' _ _
    · rw [p7_wide _ _ (.inr (.inr (.inr e1))), r7_bad _ _ e2]
  · exact e7' _ _
@[simp] theorem orBad_false (w : Ws) : w.orBad false = w := by unfold Ws.orBad; simp
theorem flagsW_all : ∀ n : Fin 64, flagsW n.val ≠ [] ∧ 47 ∉ flagsW n.val := by decide +kernel
end Go.Proofs.YtnmbbnhgoedjgaaGreatDoor.Ru2
/- A rule's words, written and read: what is written is read as it was: plain Lean. -/
namespace Go.Proofs.YtnmbbnhgoedjgaaGreatDoor.Ru3
open Go Go.Proofs.YtnmbbnhgoedjgaaGreatDoor.St0 Go.Proofs.YtnmbbnhgoedjgaaGreatDoor.St2 Go.Proofs.YtnmbbnhgoedjgaaGreatDoor.St3 Go.Proofs.YtnmbbnhgoedjgaaGreatDoor.St4 Go.Proofs.YtnmbbnhgoedjgaaGreatDoor.StC Go.Proofs.YtnmbbnhgoedjgaaGreatDoor.Ad0 Go.Proofs.YtnmbbnhgoedjgaaGreatDoor.Ru0 Go.Proofs.YtnmbbnhgoedjgaaGreatDoor.Ru1 Go.Proofs.YtnmbbnhgoedjgaaGreatDoor.Ru2
set_option linter.unusedVariables false
set_option linter.unusedSimpArgs false
def whoW (s : SideM) : Wd := if s.any then wAny else if s.table ≠ [] then 60 :: (s.table ++ [62]) else printP s.pfx
def portsW (s : SideM) : Wd := if s.high = s.low then Lib.itoa s.low else Lib.itoa s.low ++ 58 :: Lib.itoa s.high
def tkS (s : SideM) : List Wd := whoW s :: if allP s then [] else [wPort, portsW s]
def tk8 (r : RuleM) : List Wd := if r.table = 0 then [] else [wTable, Lib.itoa r.table]
def tkPin (p : PinM) (w : Wd) : List Wd := if p.on then [w, p.iface, printL p.gate] else []
def tk7 (r : RuleM) : List Wd := (if r.keep then [wKeep] else []) ++ (tkPin r.routeTo wRoute ++ (tkPin r.replyTo wReply ++ tk8 r))
def tk6 (r : RuleM) : List Wd := (if r.typ = -1 then [] else [wType, Lib.itoa r.typ]) ++ tk7 r
def tk5 (r : RuleM) : List Wd := (if r.mask = 0 then [] else [wFlags, flagsW r.set.toNat ++ 47 :: flagsW r.mask.toNat]) ++ tk6 r
def tk4 (r : RuleM) : List Wd := wTo :: (tkS r.dst ++ tk5 r)
def tk3 (r : RuleM) : List Wd := wFrom :: (tkS r.frm ++ tk4 r)
def tk2 (r : RuleM) : List Wd := (if r.proto = 0 then [] else [wProto, protoW r.proto]) ++ tk3 r
def tk1 (r : RuleM) : List Wd := (if r.ret then [wReturn] else []) ++ ((if r.quick then [wQuick] else []) ++ ((if r.on = [] then [] else [wOn, r.on]) ++ tk2 r))
def tokens (r : RuleM) : List Wd := (if r.pass then wPass else wBlock) :: tk1 r
theorem takes_hit (x : Wd) (t : List Wd) : takesP ⟨x :: t, false⟩ x = (true, ⟨t, false⟩) := by simp [takesP]
theorem takes_miss (x h : Wd) (t : List Wd) (hn : h ≠ x) : takesP ⟨h :: t, false⟩ x = (false, ⟨h :: t, false⟩) := by simp [takesP, hn]
theorem takes_none (x : Wd) : takesP ⟨[], false⟩ x = (false, ⟨[], false⟩) := by simp [takesP]
theorem next_hit (x : Wd) (t : List Wd) : nextF ⟨x :: t, false⟩ = (x, ⟨t, false⟩) := rfl
/-- A number of at most so much, written and read. -/
theorem itoa_of (n : Int) (h : 0 ≤ n) : Lib.itoa n = Lib.decDigits n.toNat := by unfold Lib.itoa; rw [if_neg (by omega)]
theorem dv_dec (n : Nat) : dv (Lib.decDigits n) = n := by
  induction n using Nat.strongRecOn with
  | _ n ih =>
    rw [Lib.decDigits]
    split
    · rename_i h
      have e : (UInt8.ofNat (48 + n)).toNat = 48 + n := by simp; omega
      show 10 * 0 + ((UInt8.ofNat (48 + n)).toNat - 48) = n
      omega
    · rename_i h
      have e : (UInt8.ofNat (48 + n % 10)).toNat = 48 + n % 10 := by simp; omega
      have h2 := St5.dvF_snoc (Lib.decDigits (n / 10)) (UInt8.ofNat (48 + n % 10)) 0
      unfold dv at ih ⊢
      rw [h2, ih (n / 10) (by omega), e]
      omega
theorem dig_dec (n : Nat) : (Lib.decDigits n).all isDig = true := by
  induction n using Nat.strongRecOn with
  | _ n ih =>
    have hd : ∀ k, k < 10 → isDig (UInt8.ofNat (48 + k)) = true := by
      intro k hk
      have e : (UInt8.ofNat (48 + k)).toNat = 48 + k := by simp; omega
      unfold isDig
      rw [e]; simp; omega
    rw [Lib.decDigits]
    split
    · rename_i h
      have := hd n h
      simp only [List.all_cons, List.all_nil, Bool.and_true, this]
    · simp only [List.all_append, ih (n / 10) (by omega), Bool.true_and, List.all_cons, List.all_nil, Bool.and_true]
      exact hd _ (by omega)
theorem head_dec (n : Nat) (h : n ≠ 0) : (Lib.decDigits n).head? ≠ some 48 := by
  induction n using Nat.strongRecOn with
  | _ n ih =>
    rw [Lib.decDigits]
    split
    · rename_i h1
      intro e
      have e2 : UInt8.ofNat (48 + n) = 48 := Option.some.inj e
      have e' : (UInt8.ofNat (48 + n)).toNat = 48 + n := by simp; omega
      rw [e2] at e'
      have : (48 : UInt8).toNat = 48 := rfl
      omega
    · have hh := ih (n / 10) (by omega) (by omega)
      have hne : Lib.decDigits (n / 10) ≠ [] := by
        rw [Lib.decDigits]; split <;> simp
      cases hd : Lib.decDigits (n / 10) with
      | nil => exact absurd hd hne
      | cons x t => rw [hd] at hh; simpa using hh
theorem len_dec (k : Nat) : ∀ n, n < 10 ^ (k + 1) → (Lib.decDigits n).length ≤ k + 1 := by
  induction k with
  | zero => intro n h; rw [Lib.decDigits, dif_pos (by simpa using h)]; simp
  | succ k ih =>
    intro n h
    rw [Lib.decDigits]
    split
    · simp
    · have := ih (n / 10) (by rw [Nat.pow_succ] at h; omega)
      simp only [List.length_append, List.length_cons, List.length_nil]
      omega
theorem ok_dec (n : Nat) (h : n < 1000000000) : okNum 9 (Lib.decDigits n) = true := by
  have h1 := len_dec 8 n h
  have hne : (Lib.decDigits n).isEmpty = false := by
    rw [Lib.decDigits]; split <;> simp
  have h2 : ((Lib.decDigits n).head? == some 48 && decide (1 < (Lib.decDigits n).length)) = false := by
    by_cases h0 : n = 0
    · subst h0
      rw [Lib.decDigits, dif_pos (by decide)]; simp
    · rw [Bool.and_eq_false_iff]
      left
      rw [beq_eq_false_iff_ne]
      exact head_dec n h0
  unfold okNum
  rw [hne, dig_dec, h2]
  simpa using h1
theorem num_back (n : Int) (h : 0 ≤ n) (h1 : n < 1000000000) (w : Ws) : numP w (Lib.itoa n) = (n, w) := by
  unfold numP
  rw [itoa_of n h, if_pos (ok_dec _ (by omega)), dv_dec]
  congr 1
  omega
/-! Which words may stand first. -/
def hd (l S : List Wd) : Prop := ∀ x, l.head? = some x → x ∈ S
theorem hd_cons (x : Wd) (t : List Wd) : hd (x :: t) [x] := fun y h => by simp at h; simp [h]
theorem hd_opt {l S t : List Wd} {a : Wd} (c : Prop) [Decidable c] (h : hd l S) : hd ((if c then a :: t else []) ++ l) (a :: S) := by
  intro x hx
  by_cases hc : c
  · rw [if_pos hc] at hx
    simp at hx
    simp [hx]
  · rw [if_neg hc] at hx
    exact List.mem_cons_of_mem _ (h x (by simpa using hx))
theorem hd_opt' {l S t : List Wd} {a : Wd} (c : Prop) [Decidable c] (h : hd l S) : hd ((if c then [] else a :: t) ++ l) (a :: S) := by
  intro x hx
  by_cases hc : c
  · rw [if_pos hc] at hx
    exact List.mem_cons_of_mem _ (h x (by simpa using hx))
  · rw [if_neg hc] at hx
    simp at hx
    simp [hx]
theorem miss {l S : List Wd} (h : hd l S) (x : Wd) (hx : x ∉ S) : takesP ⟨l, false⟩ x = (false, ⟨l, false⟩) := by
  cases l with
  | nil => exact takes_none x
  | cons y t =>
    refine takes_miss x y t ?_
    intro e
    exact hx (h x (by simp [e]))
theorem hd8 (r : RuleM) : hd (tk8 r) [wTable] := by
  have := hd_opt' (l := []) (S := []) (t := [Lib.itoa r.table]) (a := wTable) (r.table = 0) (fun x h => by simp at h)
  simpa [tk8] using this
theorem hd7b (r : RuleM) : hd (tkPin r.replyTo wReply ++ tk8 r) [wReply, wTable] := hd_opt _ (hd8 r)
theorem hd7a (r : RuleM) : hd (tkPin r.routeTo wRoute ++ (tkPin r.replyTo wReply ++ tk8 r)) [wRoute, wReply, wTable] := hd_opt _ (hd7b r)
theorem hd7 (r : RuleM) : hd (tk7 r) [wKeep, wRoute, wReply, wTable] := hd_opt _ (hd7a r)
theorem hd6 (r : RuleM) : hd (tk6 r) [wType, wKeep, wRoute, wReply, wTable] := hd_opt' _ (hd7 r)
theorem hd5 (r : RuleM) : hd (tk5 r) [wFlags, wType, wKeep, wRoute, wReply, wTable] := hd_opt' _ (hd6 r)
theorem hd4 (r : RuleM) : hd (tk4 r) [wTo] := hd_cons _ _
theorem hd3 (r : RuleM) : hd (tk3 r) [wFrom] := hd_cons _ _
theorem hd2 (r : RuleM) : hd (tk2 r) [wProto, wFrom] := hd_opt' _ (hd3 r)
theorem hd1c (r : RuleM) : hd ((if r.on = [] then [] else [wOn, r.on]) ++ tk2 r) [wOn, wProto, wFrom] := hd_opt' _ (hd2 r)
theorem hd1b (r : RuleM) : hd ((if r.quick then [wQuick] else []) ++ ((if r.on = [] then [] else [wOn, r.on]) ++ tk2 r)) [wQuick, wOn, wProto, wFrom] := hd_opt _ (hd1c r)
/-! Each step reads what was written. -/
theorem table_back (r : RuleM) (h0 : 0 ≤ r.table) (h1 : r.table < 4) : tableP ⟨tk8 r, false⟩ = (r.table, ⟨[], false⟩) := by
  unfold tableP tk8
  by_cases h : r.table = 0
  · rw [if_pos h, takes_none]; simp [h]
  · rw [if_neg h, takes_hit]
    simp only [if_true]
    rw [next_hit]
    dsimp only
    rw [num_back _ h0 (by omega)]
    simp [h, Ws.orBad]
theorem pin_back (p : PinM) (w : Wd) (l S : List Wd) (hl : hd l S) (hw : w ∉ S) (h : pinR p = true) (hg : p.gate < 4294967296) : pinF ⟨tkPin p w ++ l, false⟩ w = (p, ⟨l, false⟩) := by
  unfold pinF tkPin
  cases ho : p.on with
  | true =>
    simp only [if_true, List.cons_append, List.nil_append]
    rw [takes_hit]
    simp only [if_true]
    rw [next_hit]
    dsimp only
    rw [next_hit]
    dsimp only
    rw [back_addr _ hg]
    obtain ⟨o, i, g⟩ := p
    simp at ho
    simp [Ws.orBad, ho]
  | false =>
    simp only [Bool.false_eq_true, if_false, List.nil_append]
    rw [miss hl w hw]
    unfold pinR at h
    rw [ho] at h
    simp at h
    rw [h]; simp
theorem e7_back (r r0 : RuleM) (h1 : pinR r.routeTo = true) (h2 : pinR r.replyTo = true) (g1 : r.routeTo.gate < 4294967296) (g2 : r.replyTo.gate < 4294967296) :
    p7 r0 ⟨tk7 r, false⟩ = p8 { r0 with keep := r.keep, routeTo := r.routeTo, replyTo := r.replyTo } ⟨tk8 r, false⟩ := by
  have hk : takesP ⟨tk7 r, false⟩ wKeep = (r.keep, ⟨tkPin r.routeTo wRoute ++ (tkPin r.replyTo wReply ++ tk8 r), false⟩) := by
    unfold tk7
    cases hk : r.keep with
    | true => exact takes_hit _ _
    | false => exact miss (hd7a r) _ (by decide)
  unfold p7
  rw [hk]
  dsimp only
  rw [pin_back _ _ _ _ (hd7b r) (by decide) h1 g1]
  dsimp only
  rw [pin_back _ _ _ _ (hd8 r) (by decide) h2 g2]
theorem e6_back (r r0 : RuleM) (h0 : -1 ≤ r.typ) (h1 : r.typ ≤ 255) : p6 r0 ⟨tk6 r, false⟩ = p7 { r0 with typ := r.typ } ⟨tk7 r, false⟩ := by
  unfold p6 typeP tk6
  by_cases h : r.typ = -1
  · rw [if_pos h, List.nil_append, miss (hd7 r) _ (by decide)]; simp [h]
  · rw [if_neg h]
    simp only [List.cons_append, List.nil_append]
    rw [takes_hit]
    simp only [if_true]
    rw [next_hit]
    dsimp only
    rw [num_back _ (by omega) (by omega)]
theorem bits_all : ∀ n : Fin 64, ((List.range 64).find? fun k => flagsW k == flagsW n.val) = some n.val := by decide +kernel
theorem bits_back (n : Int) (h0 : 0 ≤ n) (h1 : n ≤ 63) (w : Ws) : bitsF w (flagsW n.toNat) = (n, w) := by
  unfold bitsF
  rw [bits_all ⟨n.toNat, by omega⟩]
  simp
  omega
theorem e5_back (r r0 : RuleM) (hm0 : 0 ≤ r.mask) (hm1 : r.mask ≤ 63) (hs0 : 0 ≤ r.set) (hs1 : r.set ≤ 63) (hz : r.mask = 0 → r.set = 0) : p5 r0 ⟨tk5 r, false⟩ = p6 { r0 with set := r.set, mask := r.mask } ⟨tk6 r, false⟩ := by
  unfold p5 flagsP tk5
  by_cases h : r.mask = 0
  · rw [if_pos h, List.nil_append, miss (hd6 r) _ (by decide)]; simp [h, hz h]
  · rw [if_neg h]
    simp only [List.cons_append, List.nil_append]
    rw [takes_hit]
    simp only [if_true]
    rw [next_hit]
    dsimp only
    rw [cut_hit 47 _ _ (flagsW_all ⟨r.set.toNat, by omega⟩).2]
    dsimp only
    rw [bits_back _ hs0 hs1]
    dsimp only
    rw [bits_back _ hm0 hm1]
    have hb : (r.mask == 0) = false := by rw [beq_eq_false_iff_ne]; exact h
    rw [hb, orBad_false]
theorem dec_head (n : Nat) : ∃ b t, Lib.decDigits n = b :: t ∧ isDig b = true := by
  have h := dig_dec n
  cases hd : Lib.decDigits n with
  | nil =>
    have : Lib.decDigits n ≠ [] := by rw [Lib.decDigits]; split <;> simp
    exact absurd hd this
  | cons b t =>
    rw [hd] at h
    simp at h
    exact ⟨b, t, rfl, h.1⟩
theorem printP_head (p : Pfx) (h0 : 0 ≤ p.len) (h1 : p.len ≤ 32) : ∃ b t, printP p = b :: t ∧ isDig b = true := by
  unfold printP
  rw [if_pos ⟨h0, h1⟩, printL_eq]
  obtain ⟨b, t, e, hb⟩ := dec_head (Ad3.octF p.addr 0)
  rw [e]
  exact ⟨b, _, rfl, hb⟩
theorem isF_len (p : Pfx) (h : isF p = true) : 0 ≤ p.len ∧ p.len ≤ 32 := by
  unfold isF at h
  rw [decide_eq_true_eq] at h
  have : p.len = heldF p.len := congrArg Pfx.len h
  rw [this]
  exact ⟨heldF_lo _, heldF_hi _⟩
theorem who_back (s : SideM) (b : Bool) (h : sideR s b = true) (hp : s.pfx.addr < 4294967296) (l : List Wd) : whoP ⟨whoW s :: l, false⟩ = ({ s with low := 0, high := 65535 }, ⟨l, false⟩) := by
  have h' := h
  unfold sideR at h'
  rw [if_not, Bool.and_eq_true] at h'
  obtain ⟨-, h'⟩ := h'
  unfold whoP whoW
  cases ha : s.any with
  | true =>
    rw [ha] at h'
    simp at h'
    simp only [if_true]
    rw [next_hit]
    dsimp only
    rw [if_pos rfl, h'.1, h'.2]
  | false =>
    rw [ha] at h'
    simp only [Bool.false_eq_true, if_false] at h' ⊢
    by_cases ht : s.table = []
    · have hno : ¬ (s.table ≠ []) := by simp [ht]
      rw [if_neg hno] at h'
      simp only [if_neg hno]
      rw [next_hit]
      dsimp only
      obtain ⟨l0, l1⟩ := isF_len _ h'
      obtain ⟨x, t, e, hx⟩ := printP_head s.pfx l0 l1
      have hx' : 48 ≤ x.toNat ∧ x.toNat ≤ 57 := by unfold isDig at hx; simpa using hx
      have n1 : printP s.pfx ≠ wAny := by
        rw [e]; intro hh
        have : x = 97 := by unfold wAny at hh; simp at hh; exact hh.1
        rw [this] at hx'
        have : (97 : UInt8).toNat = 97 := rfl
        omega
      have n2 : isTab (printP s.pfx) = false := by
        unfold isTab
        rw [e]
        have : (some x == some (60 : UInt8)) = false := by
          rw [beq_eq_false_iff_ne]; intro hh
          rw [Option.some.inj hh] at hx'
          have : (60 : UInt8).toNat = 60 := rfl
          omega
        simp only [List.head?_cons, this, Bool.and_false, Bool.false_and]
      have n3 : prefL (printP s.pfx) = some s.pfx := by
        obtain ⟨k, hk⟩ := Int.eq_ofNat_of_zero_le l0
        have := back_pfx s.pfx.addr k hp (by omega)
        have e : (⟨s.pfx.addr, (k : Int)⟩ : Pfx) = s.pfx := by
          have : s.pfx = ⟨s.pfx.addr, s.pfx.len⟩ := rfl
          rw [this, hk]
        rw [e] at this
        exact this
      rw [if_neg n1, n2, n3]
      simp [pfxOf, ht]
    · rw [if_pos ht] at h'
      simp only [if_pos ht]
      simp at h'
      rw [next_hit]
      dsimp only
      have n1 : (60 :: (s.table ++ [62]) : Wd) ≠ wAny := by unfold wAny; simp
      have n2 : isTab (60 :: (s.table ++ [62])) = true := by
        unfold isTab
        have e : (60 :: (s.table ++ [62]) : Wd).getLast? = some 62 := by
          rw [← List.cons_append]; exact List.getLast?_concat
        rw [e]
        simp
      have n3 : inner (60 :: (s.table ++ [62])) = s.table := by
        unfold inner
        simp
      have n4 : s.table.isEmpty = false := by simpa using ht
      rw [if_neg n1, if_pos n2, n3, n4, h'.2]
      simp
theorem no_colon (n : Int) (h : 0 ≤ n) : (58 : UInt8) ∉ Lib.itoa n := by
  rw [itoa_of n h]
  intro hm
  have := List.all_eq_true.1 (dig_dec n.toNat) 58 hm
  exact absurd this (by decide)
theorem side_back (s : SideM) (b : Bool) (h : sideR s b = true) (hp : s.pfx.addr < 4294967296) (l S : List Wd) (hl : hd l S) (hw : wPort ∉ S) : sideF ⟨tkS s ++ l, false⟩ = (s, ⟨l, false⟩) := by
  have h' := h
  unfold sideR at h'
  rw [if_not, Bool.and_eq_true, Bool.not_eq_true'] at h'
  obtain ⟨hq, -⟩ := h'
  simp only [Bool.or_eq_false_iff, decide_eq_false_iff_not] at hq
  obtain ⟨⟨⟨q0, q1⟩, q2⟩, -⟩ := hq
  unfold sideF tkS
  rw [List.cons_append, who_back s b h hp]
  dsimp only
  unfold portsP
  cases ha : allP s with
  | true =>
    simp only [if_true, List.nil_append]
    rw [miss hl _ hw]
    unfold allP at ha
    simp at ha
    obtain ⟨a, t, p, lo, hi⟩ := s
    simp at ha
    simp [ha]
  | false =>
    simp only [Bool.false_eq_true, if_false, List.cons_append, List.nil_append]
    rw [takes_hit]
    simp only [if_true]
    rw [next_hit]
    dsimp only
    unfold portsW
    by_cases he : s.high = s.low
    · rw [if_pos he, cut_none 58 _ (no_colon _ (by omega))]
      dsimp only
      rw [num_back _ (by omega) (by omega)]
      obtain ⟨a, t, p, lo, hi⟩ := s
      simp at he
      simp [he]
    · rw [if_neg he, cut_hit 58 _ _ (no_colon _ (by omega))]
      simp only [if_true]
      rw [num_back _ (by omega) (by omega)]
      dsimp only
      rw [num_back _ (by omega) (by omega)]
      have hb : (s.high == s.low) = false := by rw [beq_eq_false_iff_ne]; exact he
      rw [hb, orBad_false]
end Go.Proofs.YtnmbbnhgoedjgaaGreatDoor.Ru3
/- A rule's words, written and read, from the sides on: plain Lean. -/
namespace Go.Proofs.YtnmbbnhgoedjgaaGreatDoor.Ru3
open Go Go.Proofs.YtnmbbnhgoedjgaaGreatDoor.St0 Go.Proofs.YtnmbbnhgoedjgaaGreatDoor.St2 Go.Proofs.YtnmbbnhgoedjgaaGreatDoor.St3 Go.Proofs.YtnmbbnhgoedjgaaGreatDoor.St4 Go.Proofs.YtnmbbnhgoedjgaaGreatDoor.StC Go.Proofs.YtnmbbnhgoedjgaaGreatDoor.Ad0 Go.Proofs.YtnmbbnhgoedjgaaGreatDoor.Ru0 Go.Proofs.YtnmbbnhgoedjgaaGreatDoor.Ru1 Go.Proofs.YtnmbbnhgoedjgaaGreatDoor.Ru2
set_option linter.unusedVariables false
set_option linter.unusedSimpArgs false
theorem kw_hit (x : Wd) (t : List Wd) : kwP ⟨x :: t, false⟩ x = ⟨t, false⟩ := by
  unfold kwP; rw [takes_hit]; simp
theorem e4_back (r r0 : RuleM) (b : Bool) (h : sideR r.dst b = true) (hp : r.dst.pfx.addr < 4294967296) : p4 r0 ⟨tk4 r, false⟩ = p5 { r0 with dst := r.dst } ⟨tk5 r, false⟩ := by
  unfold p4 tk4
  rw [kw_hit, side_back _ b h hp _ _ (hd5 r) (by decide)]
theorem e3_back (r r0 : RuleM) (b : Bool) (h : sideR r.frm b = true) (hp : r.frm.pfx.addr < 4294967296) : p3 r0 ⟨tk3 r, false⟩ = p4 { r0 with frm := r.frm } ⟨tk4 r, false⟩ := by
  unfold p3 tk3
  rw [kw_hit, side_back _ b h hp _ _ (hd4 r) (by decide)]
theorem itoa_word (n : Int) (h : 0 ≤ n) (w : Wd) (hw : w.all isDig = false) : Lib.itoa n ≠ w := by
  intro e
  rw [← e, itoa_of n h, dig_dec] at hw
  cases hw
theorem proto_back (n : Int) (h0 : 0 < n) (h1 : n ≤ 255) (l : List Wd) : protoP ⟨protoW n :: l, false⟩ = (n, ⟨l, false⟩) := by
  unfold protoP
  rw [next_hit]
  dsimp only
  by_cases e1 : n = 1
  · subst e1; rw [show protoW 1 = wIcmp from by simp [protoW], if_pos rfl]
  · by_cases e6 : n = 6
    · subst e6; rw [show protoW 6 = wTcp from by simp [protoW], if_neg (by decide), if_pos rfl]
    · by_cases e17 : n = 17
      · subst e17; rw [show protoW 17 = wUdp from by simp [protoW], if_neg (by decide), if_neg (by decide), if_pos rfl]
      · have hw : protoW n = Lib.itoa n := by unfold protoW; rw [if_neg e1, if_neg e6, if_neg e17]
        rw [hw, if_neg (itoa_word n (by omega) _ (by decide)), if_neg (itoa_word n (by omega) _ (by decide)), if_neg (itoa_word n (by omega) _ (by decide)), num_back n (by omega) (by omega)]
        dsimp only
        have hb : (n == 0 || decide (protoW n ≠ Lib.itoa n)) = false := by
          rw [hw]
          simp
          omega
        rw [hb, orBad_false]
theorem e2_back (r r0 : RuleM) (h0 : 0 ≤ r.proto) (h1 : r.proto ≤ 255) : p2 r0 ⟨tk2 r, false⟩ = p3 { r0 with proto := r.proto } ⟨tk3 r, false⟩ := by
  unfold p2 prP tk2
  by_cases h : r.proto = 0
  · rw [if_pos h, List.nil_append, miss (hd3 r) _ (by decide)]; simp [h]
  · rw [if_neg h]
    simp only [List.cons_append, List.nil_append]
    rw [takes_hit]
    simp only [if_true]
    rw [proto_back _ (by omega) h1]
theorem e1_back (r r0 : RuleM) : p1 r0 ⟨tk1 r, false⟩ = p2 { r0 with ret := r.ret, quick := r.quick, on := r.on } ⟨tk2 r, false⟩ := by
  have h1 : takesP ⟨tk1 r, false⟩ wReturn = (r.ret, ⟨(if r.quick then [wQuick] else []) ++ ((if r.on = [] then [] else [wOn, r.on]) ++ tk2 r), false⟩) := by
    unfold tk1
    cases hk : r.ret with
    | true => exact takes_hit _ _
    | false => exact miss (hd1b r) _ (by decide)
  have h2 : takesP ⟨(if r.quick then [wQuick] else []) ++ ((if r.on = [] then [] else [wOn, r.on]) ++ tk2 r), false⟩ wQuick = (r.quick, ⟨(if r.on = [] then [] else [wOn, r.on]) ++ tk2 r, false⟩) := by
    cases hk : r.quick with
    | true => exact takes_hit _ _
    | false => exact miss (hd1c r) _ (by decide)
  have h3 : onP ⟨(if r.on = [] then [] else [wOn, r.on]) ++ tk2 r, false⟩ = (r.on, ⟨tk2 r, false⟩) := by
    unfold onP
    by_cases h : r.on = []
    · rw [if_pos h, List.nil_append, miss (hd2 r) _ (by decide)]; simp [h]
    · rw [if_neg h]
      simp only [List.cons_append, List.nil_append]
      rw [takes_hit]
      simp only [if_true]
      rw [next_hit]
      have : r.on.isEmpty = false := by simpa using h
      simp [this]
  unfold p1
  rw [h1]
  dsimp only
  rw [h2]
  dsimp only
  rw [h3]
structure Facts (r : RuleM) : Prop where
  tab : 0 ≤ r.table ∧ r.table < 4
  pins : pinR r.routeTo = true ∧ pinR r.replyTo = true
  typ : -1 ≤ r.typ ∧ r.typ ≤ 255
  mask : 0 ≤ r.mask ∧ r.mask ≤ 63
  set : 0 ≤ r.set ∧ r.set ≤ r.mask
  sides : sideR r.frm (portedF r.proto) = true ∧ sideR r.dst (portedF r.proto) = true
  proto : 0 ≤ r.proto ∧ r.proto ≤ 255
theorem facts (r : RuleM) (h : ruleR r = true) (hs : r.set ≤ 9223372036854775807) : Facts r := by
  unfold ruleR at h
  simp only [if_not, Bool.and_eq_true, Bool.not_eq_true', Bool.or_eq_false_iff, decide_eq_false_iff_not, decide_eq_true_eq, Bool.not_eq_false'] at h
  obtain ⟨-, ⟨⟨-, h1, h2⟩, h3, h4⟩, ⟨⟨⟨⟨m0, m1⟩, s0⟩, s1⟩, -⟩, ⟨⟨t0, t1⟩, -⟩, ⟨⟨p0, p1⟩, b0⟩, b1⟩ := h
  have hb : bits .andNot .i64 r.set r.mask = 0 := by simpa using s1
  exact ⟨⟨b0, b1⟩, ⟨p0, p1⟩, ⟨by omega, by omega⟩, ⟨by omega, by omega⟩, set_small _ _ (by omega) hs hb (by omega) (by omega), ⟨h3, h4⟩, ⟨by omega, by omega⟩⟩
/-- What is written is read as it was. -/
theorem rule_back (r : RuleM) (h : ruleR r = true) (hs : r.set ≤ 9223372036854775807) (a1 : r.frm.pfx.addr < 4294967296) (a2 : r.dst.pfx.addr < 4294967296) (g1 : r.routeTo.gate < 4294967296) (g2 : r.replyTo.gate < 4294967296) : ruleOf (tokens r) = some r := by
  have f := facts r h hs
  have hh : headP ⟨tokens r, false⟩ = (r.pass, ⟨tk1 r, false⟩) := by
    unfold headP tokens
    cases r.pass with
    | true => simp only [if_true]; rw [takes_hit]; simp
    | false =>
      simp only [Bool.false_eq_true, if_false]
      rw [takes_miss _ _ _ (by decide : wBlock ≠ wPass)]
      simp only [Bool.false_eq_true, if_false]
      rw [takes_hit]
      simp
  unfold ruleOf
  rw [hh]
  dsimp only
  rw [e1_back]
  dsimp only
  rw [e2_back r _ f.proto.1 f.proto.2]
  dsimp only
  rw [e3_back r _ _ f.sides.1 a1]
  dsimp only
  rw [e4_back r _ _ f.sides.2 a2]
  dsimp only
  rw [e5_back r _ f.mask.1 f.mask.2 f.set.1 (by have := f.set; have := f.mask; omega) (by have := f.set; omega)]
  dsimp only
  rw [e6_back r _ f.typ.1 f.typ.2]
  dsimp only
  rw [e7_back r _ f.pins.1 f.pins.2 g1 g2]
  dsimp only
  have hend : endP r ⟨[], false⟩ = some r := by
    unfold endP
    rw [h]; rfl
  unfold p8
  rw [table_back r f.tab.1 f.tab.2]
  dsimp only
  exact hend
end Go.Proofs.YtnmbbnhgoedjgaaGreatDoor.Ru3
/- A rule's text: its words between blanks, and the words of a text: plain Lean. -/
namespace Go.Proofs.YtnmbbnhgoedjgaaGreatDoor.Ru4
open Go Go.Proofs.YtnmbbnhgoedjgaaGreatDoor.St0 Go.Proofs.YtnmbbnhgoedjgaaGreatDoor.St2 Go.Proofs.YtnmbbnhgoedjgaaGreatDoor.St3 Go.Proofs.YtnmbbnhgoedjgaaGreatDoor.St4 Go.Proofs.YtnmbbnhgoedjgaaGreatDoor.StC Go.Proofs.YtnmbbnhgoedjgaaGreatDoor.Ad0 Go.Proofs.YtnmbbnhgoedjgaaGreatDoor.Ru0 Go.Proofs.YtnmbbnhgoedjgaaGreatDoor.Ru1 Go.Proofs.YtnmbbnhgoedjgaaGreatDoor.Ru2 Go.Proofs.YtnmbbnhgoedjgaaGreatDoor.Ru3
set_option linter.unusedVariables false
set_option linter.unusedSimpArgs false
/-- The words of a text. -/
def wordsL (l : Wd) : List Wd := (parts 32 l).filter fun w => !w.isEmpty
/-- Words between blanks. -/
def spaced : List Wd → Wd
  | [] => []
  | a :: t => a ++ t.flatMap fun w => 32 :: w
theorem join_spaced (l : List Wd) : Lib.join l [32] = spaced l := by
  cases l with
  | nil => rfl
  | cons a t =>
    unfold spaced
    induction t generalizing a with
    | nil => simp [Lib.join, List.intercalate]
    | cons b t ih =>
      have h := ih b
      have e : Lib.join (a :: b :: t) [32] = a ++ [32] ++ Lib.join (b :: t) [32] := by
        simp [Lib.join, List.intercalate]
      rw [e, h]
      simp
theorem parts_spaced (l : List Wd) (h : l ≠ []) (hn : ∀ w ∈ l, (32 : UInt8) ∉ w) : parts 32 (spaced l) = l := by
  cases l with
  | nil => exact absurd rfl h
  | cons a t =>
    unfold spaced
    induction t generalizing a with
    | nil => simp; exact parts_none 32 a (hn a (by simp))
    | cons b t ih =>
      have hb := ih b (by simp) (fun w hw => hn w (by simp at hw ⊢; right; exact hw))
      simp only [List.flatMap_cons, List.cons_append]
      rw [parts_append 32 a _ (hn a (by simp)), hb]
/-- A word: bytes, and no blank. -/
def isW (w : Wd) : Prop := w ≠ [] ∧ (32 : UInt8) ∉ w
theorem words_spaced (l : List Wd) (h : l ≠ []) (hw : ∀ w ∈ l, isW w) : wordsL (spaced l) = l := by
  unfold wordsL
  rw [parts_spaced l h (fun w hh => (hw w hh).2), List.filter_eq_self]
  intro w hh
  simpa using (hw w hh).1
theorem isW_name (w : Wd) (h : nameL w = true) : isW w := by
  unfold nameL at h
  simp only [Bool.and_eq_true, Bool.not_eq_true'] at h
  refine ⟨by simpa using h.1.1, fun hm => ?_⟩
  have := List.all_eq_true.1 h.2 32 hm
  exact absurd this (by decide)
theorem isW_dec (n : Nat) : isW (Lib.decDigits n) := by
  obtain ⟨b, t, e, -⟩ := dec_head n
  refine ⟨by rw [e]; simp, fun hm => ?_⟩
  have := List.all_eq_true.1 (dig_dec n) 32 hm
  exact absurd this (by decide)
theorem isW_itoa (n : Int) (h : 0 ≤ n) : isW (Lib.itoa n) := by rw [itoa_of n h]; exact isW_dec _
theorem isW_printL (a : Nat) : isW (printL a) := by
  rw [printL_eq]
  have h := fun j => isW_dec (Ad3.octF a j)
  refine ⟨by have := (h 0).1; simp [this], ?_⟩
  simp [(h 0).2, (h 1).2, (h 2).2, (h 3).2]
theorem isW_printP (p : Pfx) (h0 : 0 ≤ p.len) (h1 : p.len ≤ 32) : isW (printP p) := by
  unfold printP
  rw [if_pos ⟨h0, h1⟩]
  refine ⟨by simp, ?_⟩
  simp [(isW_printL p.addr).2, (isW_itoa p.len h0).2]
theorem isW_side (s : SideM) (b : Bool) (h : sideR s b = true) : ∀ w ∈ tkS s, isW w := by
  have h' := h
  unfold sideR at h'
  rw [if_not, Bool.and_eq_true, Bool.not_eq_true'] at h'
  obtain ⟨hq, h'⟩ := h'
  simp only [Bool.or_eq_false_iff, decide_eq_false_iff_not] at hq
  obtain ⟨⟨⟨q0, q1⟩, q2⟩, -⟩ := hq
  have hwho : isW (whoW s) := by
    unfold whoW
    cases ha : s.any with
    | true => simp only [if_true]; exact ⟨by decide, by decide⟩
    | false =>
      rw [ha] at h'
      simp only [Bool.false_eq_true, if_false] at h' ⊢
      by_cases ht : s.table = []
      · have hno : ¬ (s.table ≠ []) := by simp [ht]
        rw [if_neg hno] at h'
        simp only [if_neg hno]
        obtain ⟨l0, l1⟩ := isF_len _ h'
        exact isW_printP _ l0 l1
      · rw [if_pos ht] at h'
        simp only [if_pos ht]
        simp at h'
        have hw := isW_name _ h'.1
        refine ⟨by simp, ?_⟩
        simp [hw.2]
  intro w hw
  unfold tkS at hw
  rcases List.mem_cons.1 hw with rfl | hw
  · exact hwho
  · cases ha : allP s with
    | true => rw [ha] at hw; simp at hw
    | false =>
      rw [ha] at hw
      simp at hw
      rcases hw with rfl | rfl
      · exact ⟨by decide, by decide⟩
      · unfold portsW
        split
        · exact isW_itoa _ (by omega)
        · refine ⟨by simp, ?_⟩
          simp [(isW_itoa s.low (by omega)).2, (isW_itoa s.high (by omega)).2]
end Go.Proofs.YtnmbbnhgoedjgaaGreatDoor.Ru4
/- The words of a text as the library's FieldsFunc finds them, and as a loop over bytes does: plain Lean. -/
namespace Go.Proofs.YtnmbbnhgoedjgaaGreatDoor.Ru5
open Go Go.Proofs.YtnmbbnhgoedjgaaGreatDoor.St0 Go.Proofs.YtnmbbnhgoedjgaaGreatDoor.Ru0 Go.Proofs.YtnmbbnhgoedjgaaGreatDoor.Ru4
set_option linter.unusedVariables false
set_option linter.unusedSimpArgs false
def ne (w : Wd) : Bool := !w.isEmpty
theorem wordsL_eq (l : Wd) : wordsL l = (parts 32 l).filter ne := rfl
theorem parts_app (c : UInt8) : ∀ (w l : Wd) (L : List Wd) (p : Wd), c ∉ w → parts c l = L ++ [p] → parts c (l ++ w) = L ++ [p ++ w]
  | [], l, L, p, _, h => by simpa using h
  | b :: w, l, L, p, hw, h => by
    have hb : b ≠ c := fun e => hw (by simp [e])
    have h1 := parts_snoc_b c b hb l L p h
    have h2 := parts_app c w (l ++ [b]) L (p ++ [b]) (fun e => hw (by simp [e])) h1
    simpa using h2
theorem filter_end (L : List Wd) (p : Wd) : (L ++ [p]).filter ne = L.filter ne ++ (if p = [] then [] else [p]) := by
  rw [List.filter_append]
  by_cases h : p = []
  · simp [h, ne]
  · have : p.isEmpty = false := by simpa using h
    simp [h, ne, this]
theorem get_at (s : ByteArray) (i : Nat) (h : i < s.size) : s.get! i = s[i] := by
  show s.data[i]! = s.data[i]
  exact getElem!_pos s.data i h
theorem dec_blank (s : ByteArray) (i : Nat) (h : i < s.size) (hb : s[i] = 32) : Utf8.decode s i = (32, 1) := by
  rw [Lib.decode_at, get_at s i h, hb]
  rfl
theorem dec_other (s : ByteArray) (i : Nat) (h : i < s.size) (hb : s[i] ≠ 32) : (Utf8.decode s i).1 ≠ 32 ∧ 1 ≤ (Utf8.decode s i).2 ∧ i + (Utf8.decode s i).2 ≤ s.size ∧ ∀ j, i ≤ j → j < i + (Utf8.decode s i).2 → ∀ hj : j < s.size, s[j] ≠ 32 := by
  have hb' : s[i].toNat ≠ 32 := fun e => hb (UInt8.toNat_inj.1 (e.trans rfl))
  have g : ∀ k, ∀ (hk : i + k < s.size), (s.get! (i + k)).toNat / 64 = 2 → s[i + k] ≠ 32 := by
    intro k hk h2 e
    rw [get_at s (i + k) hk, e] at h2
    exact absurd h2 (by decide)
  have g1 := g 1
  have g2 := g 2
  have g3 := g 3
  rw [Lib.decode_at, get_at s i h]
  generalize hn : s[i].toNat = b0 at hb'
  generalize (s.get! (i + 1)).toNat = b1 at g1
  generalize (s.get! (i + 2)).toNat = b2 at g2
  generalize (s.get! (i + 3)).toNat = b3 at g3
  have one : ∀ r : Nat, r ≠ 32 → (r, 1).1 ≠ 32 ∧ 1 ≤ (r, 1).2 ∧ i + (r, 1).2 ≤ s.size ∧ ∀ j, i ≤ j → j < i + (r, 1).2 → ∀ hj : j < s.size, s[j] ≠ 32 := by
    intro r hr
    refine ⟨hr, Nat.le_refl _, by simp only; omega, fun j h1 h2 hj => ?_⟩
    obtain rfl : j = i := by simp only at h2; omega
    exact hb
  unfold Lib.decodeN
  split
  · exact one _ hb'
  · rename_i hb0
    split
    · rename_i c
      split
      · refine ⟨by simp only; omega, by simp only; omega, by simp only; omega, fun j h1 h2 hj => ?_⟩
        simp only at h2
        by_cases e0 : j = i
        · subst e0; exact hb
        · obtain rfl : j = i + 1 := by omega
          exact g1 hj c.2.2
      · exact one _ (by decide)
    · split
      · rename_i c
        split
        · refine ⟨by simp only; omega, by simp only; omega, by simp only; omega, fun j h1 h2 hj => ?_⟩
          simp only at h2
          by_cases e0 : j = i
          · subst e0; exact hb
          · by_cases e1 : j = i + 1
            · subst e1; exact g1 hj c.2.1.2
            · obtain rfl : j = i + 2 := by omega
              exact g2 hj c.2.2.2
        · exact one _ (by decide)
      · split
        · rename_i c
          split
          · refine ⟨by simp only; omega, by simp only; omega, by simp only; omega, fun j h1 h2 hj => ?_⟩
            simp only at h2
            by_cases e0 : j = i
            · subst e0; exact hb
            · by_cases e1 : j = i + 1
              · subst e1; exact g1 hj c.2.1.2
              · by_cases e2 : j = i + 2
                · subst e2; exact g2 hj c.2.2.1.2
                · obtain rfl : j = i + 3 := by omega
                  exact g3 hj c.2.2.2.2
          · exact one _ (by decide)
        · exact one _ (by decide)
/-- A piece of a text. -/
def ext (s : ByteArray) (x : Nat × Nat) : Wd := (s.extract x.1 x.2).data.toList
theorem ext_eq (s : ByteArray) (a b : Nat) : ext s (a, b) = (s.data.toList.take b).drop a := by
  unfold ext
  rw [ByteArray.data_extract, Array.toList_extract]
  simp [List.extract_eq_take_drop, List.drop_take]
theorem ext_len (s : ByteArray) (a b : Nat) (hb : b ≤ s.size) : (ext s (a, b)).length = b - a := by
  rw [ext_eq]
  have : s.data.toList.length = s.size := by rw [Array.length_toList]; rfl
  simp [this]; omega
theorem ext_on (s : ByteArray) (a b c : Nat) (hab : a ≤ b) (hbc : b ≤ c) : ext s (a, b) ++ ext s (b, c) = ext s (a, c) := by
  rw [ext_eq, ext_eq, ext_eq]
  have h1 : s.data.toList.take b = (s.data.toList.take c).take b := by rw [List.take_take, Nat.min_eq_left hbc]
  rw [h1]
  generalize s.data.toList.take c = l
  have h2 : List.drop b l = List.drop (b - a) (List.drop a l) := by rw [List.drop_drop]; congr 1; omega
  rw [h2, List.drop_take, List.take_append_drop]
theorem take_on (s : ByteArray) (b c : Nat) (hbc : b ≤ c) : s.data.toList.take b ++ ext s (b, c) = s.data.toList.take c := by
  rw [ext_eq]
  have h1 : s.data.toList.take b = (s.data.toList.take c).take b := by rw [List.take_take, Nat.min_eq_left hbc]
  rw [h1, List.take_append_drop]
theorem ext_mem (s : ByteArray) (a b : Nat) (hb : b ≤ s.size) (x : UInt8) (h : x ∈ ext s (a, b)) : ∃ j, a ≤ j ∧ j < b ∧ ∃ hj : j < s.size, s[j] = x := by
  rw [ext_eq] at h
  obtain ⟨k, hk, e⟩ := List.mem_iff_getElem.1 h
  simp only [List.getElem_drop, List.getElem_take, Array.getElem_toList] at e
  have hk' : k < b - a := by
    have := hk
    simp at this
    omega
  exact ⟨a + k, by omega, by omega, by omega, e⟩
/-- The pieces so far, and the piece that is open. -/
def Open (s : ByteArray) (pos : Nat) (st : Option Nat) (p : Wd) : Prop := match st with
  | none => p = []
  | some a => a < pos ∧ p = ext s (a, pos)
theorem close_none (s : ByteArray) (acc : List (Nat × Nat)) : Lib.closeSpans s (acc, none) = acc := rfl
theorem close_some (s : ByteArray) (acc : List (Nat × Nat)) (a : Nat) : Lib.closeSpans s (acc, some a) = acc ++ [(a, s.size)] := rfl
theorem take_all' (s : ByteArray) : s.data.toList.take s.size = s.data.toList := by
  rw [List.take_of_length_le]
  rw [Array.length_toList]; exact Nat.le_refl _
theorem spans_inv (s : ByteArray) : ∀ (f pos : Nat) (st : Option Nat) (acc : List (Nat × Nat)) (L : List Wd) (p : Wd), s.size - pos ≤ f → pos ≤ s.size → parts 32 (s.data.toList.take pos) = L ++ [p] → acc.map (ext s) = L.filter ne → Open s pos st p →
    (Lib.closeSpans s (Lib.spansFromP (fun r => r == 32) s f pos st acc)).map (ext s) = wordsL s.data.toList := by
  have fin : ∀ (pos : Nat) (st : Option Nat) (acc : List (Nat × Nat)) (L : List Wd) (p : Wd), pos = s.size → parts 32 (s.data.toList.take pos) = L ++ [p] → acc.map (ext s) = L.filter ne → Open s pos st p → (Lib.closeSpans s (acc, st)).map (ext s) = wordsL s.data.toList := by
    intro pos st acc L p e h1 h2 h3
    subst e
    rw [take_all'] at h1
    rw [wordsL_eq, h1, filter_end]
    cases st with
    | none =>
      obtain rfl : p = [] := h3
      rw [close_none, h2]; simp
    | some a =>
      obtain ⟨ha, rfl⟩ : a < s.size ∧ p = ext s (a, s.size) := h3
      have hne : ext s (a, s.size) ≠ [] := by
        intro e
        have := congrArg List.length e
        rw [ext_len s a s.size (Nat.le_refl _)] at this
        simp at this; omega
      rw [close_some, List.map_append, h2, if_neg hne]; rfl
  intro f
  induction f with
  | zero =>
    intro pos st acc L p hf hp h1 h2 h3
    exact fin pos st acc L p (by omega) h1 h2 h3
  | succ f ih =>
    intro pos st acc L p hf hp h1 h2 h3
    unfold Lib.spansFromP
    by_cases hlt : pos < s.size
    · rw [if_pos hlt]
      by_cases hb : s[pos] = 32
      · rw [dec_blank s pos hlt hb]
        have hnext : parts 32 (s.data.toList.take (pos + 1)) = (L ++ [p]) ++ [[]] := by
          have : s.data.toList.take (pos + 1) = s.data.toList.take pos ++ [32] := by
            rw [← take_on s pos (pos + 1) (by omega)]
            congr 1
            rw [ext_eq, List.take_succ_eq_append_getElem (by rw [Array.length_toList]; exact hlt)]
            have hl : (s.data.toList.take pos).length = pos := by
              rw [List.length_take, Array.length_toList]; exact Nat.min_eq_left hp
            rw [List.drop_append_of_le_length (by omega), List.drop_of_length_le (by omega)]
            simp only [List.nil_append, Array.getElem_toList]
            congr 1
          rw [this, parts_snoc_c, h1]
        simp only [beq_self_eq_true, if_true]
        cases st with
        | none =>
          obtain rfl : p = [] := h3
          exact ih (pos + 1) none acc (L ++ [[]]) [] (by omega) (by omega) hnext (by rw [filter_end, h2]; simp) rfl
        | some a =>
          obtain ⟨ha, rfl⟩ : a < pos ∧ p = ext s (a, pos) := h3
          have hne : ext s (a, pos) ≠ [] := by
            intro e
            have := congrArg List.length e
            rw [ext_len s a pos (by omega)] at this
            simp at this; omega
          exact ih (pos + 1) none (acc ++ [(a, pos)]) (L ++ [ext s (a, pos)]) [] (by omega) (by omega) hnext (by rw [filter_end, if_neg hne, List.map_append, h2]; rfl) rfl
      · obtain ⟨d1, d2, d3, d4⟩ := dec_other s pos hlt hb
        generalize Utf8.decode s pos = D at d1 d2 d3 d4
        obtain ⟨r, k⟩ := D
        simp only at d1 d2 d3 d4
        have hr : (r == 32) = false := by simpa using d1
        simp only [hr, Bool.false_eq_true, if_false]
        have hn : (32 : UInt8) ∉ ext s (pos, pos + k) := by
          intro hm
          obtain ⟨j, j1, j2, hj, e⟩ := ext_mem s pos (pos + k) d3 32 hm
          exact d4 j j1 j2 hj e
        have hnext : parts 32 (s.data.toList.take (pos + k)) = L ++ [p ++ ext s (pos, pos + k)] := by
          rw [← take_on s pos (pos + k) (by omega)]
          exact parts_app 32 _ _ _ _ hn h1
        cases st with
        | none =>
          obtain rfl : p = [] := h3
          exact ih (pos + k) (some pos) acc L _ (by omega) d3 hnext h2 ⟨by omega, by simp⟩
        | some a =>
          obtain ⟨ha, rfl⟩ : a < pos ∧ p = ext s (a, pos) := h3
          exact ih (pos + k) (some a) acc L _ (by omega) d3 hnext h2 ⟨by omega, ext_on s a pos (pos + k) (by omega) (by omega)⟩
    · rw [if_neg hlt]
      exact fin pos st acc L p (by omega) h1 h2 h3
/-- The library's fields between blanks are the words. -/
theorem fields_words (s : ByteArray) : (Lib.goFieldsP (fun r => r == 32) s).map (·.data.toList) = wordsL s.data.toList := by
  unfold Lib.goFieldsP
  rw [List.map_map]
  exact spans_inv s s.size 0 none [] [] [] (by omega) (by omega) rfl rfl rfl
theorem fields_len (s : ByteArray) : ∀ x ∈ Lib.goFieldsP (fun r => r == 32) s, x.size ≤ s.size := by
  intro x hx
  unfold Lib.goFieldsP at hx
  obtain ⟨y, -, rfl⟩ := List.mem_map.1 hx
  rw [ByteArray.size_extract]; omega
end Go.Proofs.YtnmbbnhgoedjgaaGreatDoor.Ru5

