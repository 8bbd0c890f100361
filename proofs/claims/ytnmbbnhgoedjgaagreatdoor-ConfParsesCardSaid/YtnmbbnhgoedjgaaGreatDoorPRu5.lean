/- Rules: what they are, and how their words are read, by the program's way and by the document's way: plain Lean, no program in sight. -/
import Derived.Test.YtnmbbnhgoedjgaaGreatDoorPAd0
import Derived.Test.YtnmbbnhgoedjgaaGreatDoorPSt7
import Derived.Lib.ItoaNum
import Derived.Lib.Atoi
import Derived.Lib.SlTrimSet
import Derived.Lib.Split
import Derived.Lib.SplitLaws
import Derived.Lib.CutLaws
import Derived.Lib.FieldsP
import Derived.Lib.DecodeN
namespace Go.Proofs.YtnmbbnhgoedjgaaGreatDoor.Ru0
open Go Go.Proofs.YtnmbbnhgoedjgaaGreatDoor.Ad0
set_option linter.unusedVariables false
set_option linter.unusedSimpArgs false
abbrev Wd := List UInt8
structure SideM where
  any : Bool := false
  table : Wd := []
  pfx : Pfx := ⟨0, 0⟩
  low : Int := 0
  high : Int := 0
  deriving DecidableEq
structure PinM where
  on : Bool := false
  iface : Wd := []
  gate : Nat := 0
  deriving DecidableEq
structure RuleM where
  pass : Bool := false
  ret : Bool := false
  quick : Bool := false
  on : Wd := []
  proto : Int := 0
  frm : SideM := {}
  dst : SideM := {}
  set : Int := 0
  mask : Int := 0
  typ : Int := 0
  keep : Bool := false
  routeTo : PinM := {}
  replyTo : PinM := {}
  table : Int := 0
  deriving DecidableEq
def isSign (b : UInt8) : Bool := decide (97 ≤ b.toNat ∧ b.toNat ≤ 122) || decide (48 ≤ b.toNat ∧ b.toNat ≤ 57)
def nameL (l : Wd) : Bool := !l.isEmpty && decide (l.length ≤ 8) && l.all isSign
def portedF (p : Int) : Bool := p == 6 || p == 17
def allP (s : SideM) : Bool := s.low == 0 && s.high == 65535
/-- May an end be? The document's way. -/
def sideR (s : SideM) (ported : Bool) : Bool :=
  if decide (s.low < 0) || decide (65535 < s.high) || decide (s.high < s.low) || (!ported && !allP s) then false
  else if s.any then decide (s.table = []) && decide (s.pfx = ⟨0, 0⟩) else if s.table ≠ [] then nameL s.table && decide (s.pfx = ⟨0, 0⟩) else isF s.pfx
/-- The program's way. -/
def sideP (s : SideM) (proto : Int) : Bool :=
  if (s.any && (decide (s.table ≠ []) || !decide (s.pfx = ⟨0, 0⟩))) || (decide (s.table ≠ []) && (!nameL s.table || !decide (s.pfx = ⟨0, 0⟩))) || !isF s.pfx then false
  else decide (0 ≤ s.low) && decide (s.low ≤ s.high) && decide (s.high ≤ 65535) && (allP s || portedF proto)
def pinR (p : PinM) : Bool := if p.on then nameL p.iface else decide (p = {})
def pinP (p : PinM) : Bool := (p.on && nameL p.iface) || decide (p = {})
theorem ports_same (a b c d : Bool) (l h : Int) : (decide (0 ≤ l) && decide (l ≤ h) && decide (h ≤ 65535) && (a || b)) = !(decide (l < 0) || decide (65535 < h) || decide (h < l) || (!b && !a)) := by
  rw [Bool.eq_iff_iff]
  cases a <;> cases b <;> simp <;> omega
theorem zero_is : isF ⟨0, 0⟩ = true := by decide +kernel
theorem sides_same (s : SideM) (proto : Int) : sideP s proto = sideR s (portedF proto) := by
  unfold sideP sideR
  rw [ports_same (allP s) (portedF proto) true true]
  generalize (decide (s.low < 0) || decide (65535 < s.high) || decide (s.high < s.low) || (!portedF proto && !allP s)) = q
  by_cases h3 : s.pfx = ⟨0, 0⟩
  · rw [h3, zero_is]
    cases q <;> cases s.any <;> by_cases h2 : s.table = [] <;> cases hn : nameL s.table <;> simp [h2, hn]
  · cases q <;> cases s.any <;> by_cases h2 : s.table = [] <;> cases hn : nameL s.table <;> cases hi : isF s.pfx <;> simp [h2, hn, hi, h3]
theorem pins_same (p : PinM) : pinP p = pinR p := by
  unfold pinP pinR
  cases h : p.on with
  | true =>
    have : decide (p = {}) = false := by
      rw [decide_eq_false_iff_not]
      intro e; rw [e] at h; cases h
    rw [this]; simp
  | false => simp
/-- May a rule be? The document's way. -/
def ruleR (r : RuleM) : Bool :=
  if (r.pass && r.ret) || (!r.pass && (r.keep || r.routeTo.on || r.replyTo.on || !(r.table == 0))) then false
  else if (decide (r.on ≠ []) && !nameL r.on) || (decide (r.proto < 0) || decide (255 < r.proto)) || (!sideR r.frm (portedF r.proto) || !sideR r.dst (portedF r.proto)) then false
  else if (decide (r.mask < 0) || decide (63 < r.mask) || decide (r.set < 0) || !(bits .andNot .i64 r.set r.mask == 0)) || (!(r.proto == 6) && (!(r.mask == 0) || !(r.set == 0))) then false
  else if (decide (r.typ < -1) || decide (255 < r.typ)) || (!(r.proto == 1) && !(r.typ == -1)) then false
  else pinR r.routeTo && pinR r.replyTo && decide (0 ≤ r.table) && decide (r.table < 4)
/-- The program's way. -/
def lookP (r : RuleM) : Bool :=
  decide (0 ≤ r.proto) && decide (r.proto ≤ 255) && (decide (0 ≤ r.mask) && decide (r.mask ≤ 63) && (bits .andNot .i64 r.set r.mask == 0) && (r.mask == 0 || r.proto == 6)) && (decide (-1 ≤ r.typ) && decide (r.typ ≤ 255) && (r.typ == -1 || r.proto == 1))
def passP (r : RuleM) : Bool := r.pass || (!r.keep && !r.routeTo.on && !r.replyTo.on && r.table == 0)
def ruleP (r : RuleM) : Bool :=
  !(r.ret && r.pass) && passP r && (decide (r.on = []) || nameL r.on) && lookP r && sideP r.frm r.proto && sideP r.dst r.proto && pinP r.routeTo && pinP r.replyTo && decide (0 ≤ r.table) && decide (r.table < 4)
theorem bv_sub (a b : BitVec 64) (h : a &&& ~~~b = 0) : a.toNat ≤ b.toNat := by
  have e : a = a &&& b := by
    apply BitVec.eq_of_getLsbD_eq
    intro i hi
    have := congrArg (·.getLsbD i) h
    simp [hi] at this
    simp
    cases ha : a.getLsbD i <;> simp_all
  rw [e, BitVec.toNat_and]
  exact Nat.and_le_right
theorem set_small (s m : Int) (hs : -9223372036854775808 ≤ s) (hs' : s ≤ 9223372036854775807) (h : bits .andNot .i64 s m = 0) (hm : 0 ≤ m) (hm' : m ≤ 63) : 0 ≤ s ∧ s ≤ m := by
  have h1 : IntKind.i64.wrap (((BitVec.ofInt 64 s) &&& ~~~(BitVec.ofInt 64 m)).toNat : Int) = 0 := h
  have h2 : ((BitVec.ofInt 64 s) &&& ~~~(BitVec.ofInt 64 m)).toNat = 0 := by
    have hlt := ((BitVec.ofInt 64 s) &&& ~~~(BitVec.ofInt 64 m)).isLt
    generalize ((BitVec.ofInt 64 s) &&& ~~~(BitVec.ofInt 64 m)).toNat = x at h1 hlt
    simp [IntKind.wrap, IntKind.signed, IntKind.bits] at h1
    split at h1 <;> omega
  have h3 := bv_sub _ _ (BitVec.eq_of_toNat_eq (h2.trans rfl))
  rw [BitVec.toNat_ofInt, BitVec.toNat_ofInt] at h3
  have e : (((2 ^ 64 : Nat) : Int)) = 18446744073709551616 := rfl
  rw [e] at h3
  omega
theorem if_not (c x : Bool) : (if c then false else x) = (!c && x) := by cases c <;> rfl
theorem look_same (r : RuleM) (hs : -9223372036854775808 ≤ r.set) (hs' : r.set ≤ 9223372036854775807) : lookP r = (!(decide (r.proto < 0) || decide (255 < r.proto)) && (!((decide (r.mask < 0) || decide (63 < r.mask) || decide (r.set < 0) || !(bits .andNot .i64 r.set r.mask == 0)) || (!(r.proto == 6) && (!(r.mask == 0) || !(r.set == 0)))) && !((decide (r.typ < -1) || decide (255 < r.typ)) || (!(r.proto == 1) && !(r.typ == -1))))) := by
  have h0 := set_small r.set r.mask hs hs'
  unfold lookP
  generalize bits .andNot .i64 r.set r.mask = b at h0
  rw [Bool.eq_iff_iff]
  simp
  omega
theorem rules_same (r : RuleM) (hs : -9223372036854775808 ≤ r.set) (hs' : r.set ≤ 9223372036854775807) : ruleP r = ruleR r := by
  have h1 := look_same r hs hs'
  unfold ruleP ruleR passP
  rw [sides_same, sides_same, pins_same, pins_same, h1]
  simp only [if_not]
  have h2 : (decide (r.on = []) || nameL r.on) = !(decide (r.on ≠ []) && !nameL r.on) := by by_cases h : r.on = [] <;> simp [h]
  have h3 : (!(r.ret && r.pass) && (r.pass || (!r.keep && !r.routeTo.on && !r.replyTo.on && r.table == 0))) = !((r.pass && r.ret) || (!r.pass && (r.keep || r.routeTo.on || r.replyTo.on || !(r.table == 0)))) := by
    cases r.pass <;> cases r.ret <;> cases r.keep <;> cases r.routeTo.on <;> cases r.replyTo.on <;> simp
  rw [h2, h3]
  simp only [Bool.not_or, Bool.not_not, Bool.and_assoc]
  ac_rfl
end Go.Proofs.YtnmbbnhgoedjgaaGreatDoor.Ru0
/- A rule's words, read: the program's way and the document's way; the two are one. -/
namespace Go.Proofs.YtnmbbnhgoedjgaaGreatDoor.Ru1
open Go Go.Proofs.YtnmbbnhgoedjgaaGreatDoor.St0 Go.Proofs.YtnmbbnhgoedjgaaGreatDoor.St2 Go.Proofs.YtnmbbnhgoedjgaaGreatDoor.St3 Go.Proofs.YtnmbbnhgoedjgaaGreatDoor.Ad0 Go.Proofs.YtnmbbnhgoedjgaaGreatDoor.Ru0
set_option linter.unusedVariables false
set_option linter.unusedSimpArgs false
def wPass : Wd := [112, 97, 115, 115]
def wBlock : Wd := [98, 108, 111, 99, 107]
def wReturn : Wd := [114, 101, 116, 117, 114, 110]
def wQuick : Wd := [113, 117, 105, 99, 107]
def wOn : Wd := [111, 110]
def wProto : Wd := [112, 114, 111, 116, 111]
def wFrom : Wd := [102, 114, 111, 109]
def wTo : Wd := [116, 111]
def wAny : Wd := [97, 110, 121]
def wPort : Wd := [112, 111, 114, 116]
def wFlags : Wd := [102, 108, 97, 103, 115]
def wType : Wd := [116, 121, 112, 101]
def wKeep : Wd := [107, 101, 101, 112]
def wRoute : Wd := [114, 111, 117, 116, 101, 45, 116, 111]
def wReply : Wd := [114, 101, 112, 108, 121, 45, 116, 111]
def wTable : Wd := [116, 97, 98, 108, 101]
def wIcmp : Wd := [105, 99, 109, 112]
def wTcp : Wd := [116, 99, 112]
def wUdp : Wd := [117, 100, 112]
def protoW (n : Int) : Wd := if n = 1 then wIcmp else if n = 6 then wTcp else if n = 17 then wUdp else Lib.itoa n
/-- The words that are left, and whether one was none. -/
structure Ws where
  l : List Wd
  bad : Bool
def takesP (w : Ws) (word : Wd) : Bool × Ws := match w.l with
  | [] => (false, w)
  | h :: t => if w.bad = false ∧ h = word then (true, ⟨t, w.bad⟩) else (false, w)
def takesR (w : Ws) (word : Wd) : Bool × Ws := match w.l with
  | [] => (false, w)
  | h :: t => if h = word then (true, ⟨t, w.bad⟩) else (false, w)
def nextF (w : Ws) : Wd × Ws := match w.l with
  | [] => ([], ⟨[], true⟩)
  | h :: t => (h, ⟨t, w.bad⟩)
def Ws.orBad (w : Ws) (b : Bool) : Ws := ⟨w.l, w.bad || b⟩
/-- A number of at most nine digits. -/
def numP (w : Ws) (s : Wd) : Int × Ws := if okNum 9 s then ((dv s : Nat), w) else (0, ⟨w.l, true⟩)
def numR (w : Ws) (s : Wd) (most : Int) : Int × Ws := if okNum 9 s then ((dv s : Nat), w.orBad (!decide ((dv s : Int) ≤ most))) else (0, ⟨w.l, true⟩)
def protoP (w : Ws) : Int × Ws :=
  let n := nextF w
  if n.1 = wIcmp then (1, n.2) else if n.1 = wTcp then (6, n.2) else if n.1 = wUdp then (17, n.2) else
    let m := numP n.2 n.1
    (m.1, m.2.orBad (m.1 == 0 || decide (protoW m.1 ≠ n.1)))
def protoR (w : Ws) : Int × Ws :=
  let n := nextF w
  if wIcmp = n.1 then (1, n.2) else if wTcp = n.1 then (6, n.2) else if wUdp = n.1 then (17, n.2) else
    let m := numR n.2 n.1 255
    (m.1, m.2.orBad (m.1 == 0 || decide (protoW m.1 ≠ n.1)))
/-- What stands between '<' and '>'. -/
def inner (s : Wd) : Wd := (s.drop 1).take (s.length - 2)
def isTab (s : Wd) : Bool := decide (2 ≤ s.length) && s.head? == some 60 && s.getLast? == some 62
def isTabR (s : Wd) : Bool := decide (2 < s.length) && s.head? == some 60 && s.getLast? == some 62
def pfxOf (r : Option Pfx) : Pfx := r.getD ⟨0, 0⟩
def whoP (w : Ws) : SideM × Ws :=
  let n := nextF w
  if n.1 = wAny then ({ any := true, high := 65535 }, n.2)
  else if isTab n.1 then ({ table := inner n.1, high := 65535 }, n.2.orBad (inner n.1).isEmpty)
  else ({ pfx := pfxOf (prefL n.1), high := 65535 }, n.2.orBad (prefL n.1).isNone)
def whoR (w : Ws) : SideM × Ws :=
  let n := nextF w
  if n.1 = wAny then ({ any := true, high := 65535 }, n.2)
  else if isTabR n.1 then ({ table := inner n.1, high := 65535 }, n.2)
  else ({ pfx := pfxOf (prefL n.1), high := 65535 }, n.2.orBad (prefL n.1).isNone)
def portsP (s : SideM) (w : Ws) : SideM × Ws :=
  let t := takesP w wPort
  if t.1 then
    let n := nextF t.2
    let c := Lib.cut n.1 [58]
    let a := numP n.2 c.1
    if c.2.2 then
      let b := numP a.2 c.2.1
      ({ s with low := a.1, high := b.1 }, b.2.orBad (b.1 == a.1))
    else ({ s with low := a.1, high := a.1 }, a.2)
  else (s, t.2)
def portsR (s : SideM) (w : Ws) : SideM × Ws :=
  let t := takesR w wPort
  if t.1 then
    let n := nextF t.2
    let ps := parts 58 n.1
    let a := numR n.2 (ps.getD 0 []) 65535
    if 1 < ps.length then
      let b := numR a.2 (ps.getD 1 []) 65535
      ({ s with low := a.1, high := b.1 }, (b.2.orBad (b.1 == a.1)).orBad (decide (2 < ps.length)))
    else ({ s with low := a.1, high := a.1 }, a.2.orBad (decide (2 < ps.length)))
  else (s, t.2)
def sideF (w : Ws) : SideM × Ws := let s := whoP w; portsP s.1 s.2
def endF (w : Ws) : SideM × Ws := let s := whoR w; portsR s.1 s.2
def letters : Wd := [70, 83, 82, 80, 65, 85]
def flagsL (n : Nat) : Wd := (List.range 6).filterMap fun i => if n.testBit i then letters[i]? else none
def flagsW (n : Nat) : Wd := if flagsL n = [] then [45] else flagsL n
def bitsF (w : Ws) (s : Wd) : Int × Ws := match (List.range 64).find? fun n => flagsW n == s with
  | some n => ((n : Nat), w)
  | none => (0, ⟨w.l, true⟩)
def pinF (w : Ws) (word : Wd) : PinM × Ws :=
  let t := takesP w word
  if t.1 then
    let n := nextF t.2
    let g := nextF n.2
    (⟨true, n.1, (parseL g.1).getD 0⟩, g.2.orBad (parseL g.1).isNone)
  else ({}, t.2)
def pinD (w : Ws) (word : Wd) : PinM × Ws :=
  let t := takesR w word
  if t.1 then
    let n := nextF t.2
    let g := nextF n.2
    (⟨true, n.1, (parseL g.1).getD 0⟩, g.2.orBad (parseL g.1).isNone)
  else ({}, t.2)
/-- The flags, the program's way. -/
def flagsP (w : Ws) : (Int × Int) × Ws :=
  let t := takesP w wFlags
  if t.1 then
    let n := nextF t.2
    let c := Lib.cut n.1 [47]
    let a := bitsF n.2 c.1
    let b := bitsF a.2 c.2.1
    ((a.1, b.1), b.2.orBad (b.1 == 0))
  else ((0, 0), t.2)
def flagsD (w : Ws) : (Int × Int) × Ws :=
  let t := takesR w wFlags
  if t.1 then
    let n := nextF t.2
    match parts 47 n.1 with
    | [x, y] =>
      let a := bitsF n.2 x
      let b := bitsF a.2 y
      ((a.1, b.1), b.2.orBad (b.1 == 0))
    | _ => ((0, 0), n.2.orBad true)
  else ((0, 0), t.2)
def typeP (w : Ws) : Int × Ws := let t := takesP w wType; if t.1 then let n := nextF t.2; numP n.2 n.1 else (-1, t.2)
def typeR (w : Ws) : Int × Ws := let t := takesR w wType; if t.1 then let n := nextF t.2; numR n.2 n.1 255 else (-1, t.2)
def tableP (w : Ws) : Int × Ws := let t := takesP w wTable; if t.1 then let n := nextF t.2; let m := numP n.2 n.1; (m.1, m.2.orBad (m.1 == 0)) else (0, t.2)
def tableR (w : Ws) : Int × Ws := let t := takesR w wTable; if t.1 then let n := nextF t.2; let m := numR n.2 n.1 3; (m.1, m.2.orBad (m.1 == 0)) else (0, t.2)
def onP (w : Ws) : Wd × Ws := let t := takesP w wOn; if t.1 then let n := nextF t.2; (n.1, n.2.orBad n.1.isEmpty) else ([], t.2)
def onR (w : Ws) : Wd × Ws := let t := takesR w wOn; if t.1 then let n := nextF t.2; (n.1, n.2.orBad n.1.isEmpty) else ([], t.2)
def prP (w : Ws) : Int × Ws := let t := takesP w wProto; if t.1 then protoP t.2 else (0, t.2)
def prR (w : Ws) : Int × Ws := let t := takesR w wProto; if t.1 then protoR t.2 else (0, t.2)
def kwP (w : Ws) (word : Wd) : Ws := let t := takesP w word; t.2.orBad (!t.1)
def kwR (w : Ws) (word : Wd) : Ws := let t := takesR w word; t.2.orBad (!t.1)
def headP (w : Ws) : Bool × Ws :=
  let t := takesP w wPass
  if t.1 then (true, t.2) else
    let b := takesP t.2 wBlock
    (false, ⟨b.2.l, !b.1⟩)
def headR (w : Ws) : Bool × Ws :=
  let n := nextF w
  if n.1 = wPass then (true, n.2) else if n.1 = wBlock then (false, n.2) else (false, ⟨n.2.l, true⟩)
/-! The rest of the reading, from each step on. -/
def endP (r : RuleM) (w : Ws) : Option RuleM := if w.bad || !w.l.isEmpty || !ruleR r then none else some r
def p8 (r : RuleM) (w : Ws) : Option RuleM := let t := tableP w; endP { r with table := t.1 } t.2
def p7 (r : RuleM) (w : Ws) : Option RuleM := let k := takesP w wKeep; let a := pinF k.2 wRoute; let b := pinF a.2 wReply; p8 { r with keep := k.1, routeTo := a.1, replyTo := b.1 } b.2
def p6 (r : RuleM) (w : Ws) : Option RuleM := let t := typeP w; p7 { r with typ := t.1 } t.2
def p5 (r : RuleM) (w : Ws) : Option RuleM := let f := flagsP w; p6 { r with set := f.1.1, mask := f.1.2 } f.2
def p4 (r : RuleM) (w : Ws) : Option RuleM := let t := sideF (kwP w wTo); p5 { r with dst := t.1 } t.2
def p3 (r : RuleM) (w : Ws) : Option RuleM := let t := sideF (kwP w wFrom); p4 { r with frm := t.1 } t.2
def p2 (r : RuleM) (w : Ws) : Option RuleM := let t := prP w; p3 { r with proto := t.1 } t.2
def p1 (r : RuleM) (w : Ws) : Option RuleM := let a := takesP w wReturn; let b := takesP a.2 wQuick; let o := onP b.2; p2 { r with ret := a.1, quick := b.1, on := o.1 } o.2
def ruleOf (l : List Wd) : Option RuleM := let h := headP ⟨l, false⟩; p1 { pass := h.1 } h.2
def r8 (r : RuleM) (w : Ws) : Option RuleM := let t := tableR w; endP { r with table := t.1 } t.2
def r7 (r : RuleM) (w : Ws) : Option RuleM := let k := takesR w wKeep; let a := pinD k.2 wRoute; let b := pinD a.2 wReply; r8 { r with keep := k.1, routeTo := a.1, replyTo := b.1 } b.2
def r6 (r : RuleM) (w : Ws) : Option RuleM := let t := typeR w; r7 { r with typ := t.1 } t.2
def r5 (r : RuleM) (w : Ws) : Option RuleM := let f := flagsD w; r6 { r with set := f.1.1, mask := f.1.2 } f.2
def r4 (r : RuleM) (w : Ws) : Option RuleM := let t := endF (kwR w wTo); r5 { r with dst := t.1 } t.2
def r3 (r : RuleM) (w : Ws) : Option RuleM := let t := endF (kwR w wFrom); r4 { r with frm := t.1 } t.2
def r2 (r : RuleM) (w : Ws) : Option RuleM := let t := prR w; r3 { r with proto := t.1 } t.2
def r1 (r : RuleM) (w : Ws) : Option RuleM := let a := takesR w wReturn; let b := takesR a.2 wQuick; let o := onR b.2; r2 { r with ret := a.1, quick := b.1, on := o.1 } o.2
def ruleOfR (l : List Wd) : Option RuleM := let h := headR ⟨l, false⟩; r1 { pass := h.1 } h.2
/-! Once bad, bad. -/
@[simp] theorem orBad_l (w : Ws) (b : Bool) : (w.orBad b).l = w.l := rfl
@[simp] theorem orBad_bad (w : Ws) (b : Bool) : (w.orBad b).bad = (w.bad || b) := rfl
theorem takesP_bad (w : Ws) (x : Wd) (h : w.bad = true) : (takesP w x).2.bad = true := by
  unfold takesP; split <;> (try split) <;> simp_all
theorem takesR_bad (w : Ws) (x : Wd) (h : w.bad = true) : (takesR w x).2.bad = true := by
  unfold takesR; split <;> (try split) <;> simp_all
theorem nextF_bad (w : Ws) (h : w.bad = true) : (nextF w).2.bad = true := by
  unfold nextF; split <;> simp_all
theorem numP_bad (w : Ws) (x : Wd) (h : w.bad = true) : (numP w x).2.bad = true := by
  unfold numP; split <;> simp_all
theorem numR_bad (w : Ws) (x : Wd) (m : Int) (h : w.bad = true) : (numR w x m).2.bad = true := by
  unfold numR; split <;> simp_all
theorem bitsF_bad (w : Ws) (x : Wd) (h : w.bad = true) : (bitsF w x).2.bad = true := by
  unfold bitsF; split <;> simp_all
theorem protoP_bad (w : Ws) (h : w.bad = true) : (protoP w).2.bad = true := by
  have h1 := nextF_bad w h
  have h2 := numP_bad _ (nextF w).1 h1
  unfold protoP; dsimp only; split <;> (try split) <;> (try split) <;> simp_all
theorem protoR_bad (w : Ws) (h : w.bad = true) : (protoR w).2.bad = true := by
  have h1 := nextF_bad w h
  have h2 := numR_bad _ (nextF w).1 255 h1
  unfold protoR; dsimp only; split <;> (try split) <;> (try split) <;> simp_all
end Go.Proofs.YtnmbbnhgoedjgaaGreatDoor.Ru1
/- The program's reading of a rule's words and the document's are one. -/
namespace Go.Proofs.YtnmbbnhgoedjgaaGreatDoor.Ru2
open Go Go.Proofs.YtnmbbnhgoedjgaaGreatDoor.St0 Go.Proofs.YtnmbbnhgoedjgaaGreatDoor.St2 Go.Proofs.YtnmbbnhgoedjgaaGreatDoor.St3 Go.Proofs.YtnmbbnhgoedjgaaGreatDoor.Ad0 Go.Proofs.YtnmbbnhgoedjgaaGreatDoor.Ru0 Go.Proofs.YtnmbbnhgoedjgaaGreatDoor.Ru1
set_option linter.unusedVariables false
set_option linter.unusedSimpArgs false
attribute [local simp] takesP_bad takesR_bad nextF_bad numP_bad numR_bad bitsF_bad protoP_bad protoR_bad
theorem whoP_bad (w : Ws) (h : w.bad = true) : (whoP w).2.bad = true := by
  unfold whoP; dsimp only; split <;> (try split) <;> simp (maxDischargeDepth := 12) [h]
theorem whoR_bad (w : Ws) (h : w.bad = true) : (whoR w).2.bad = true := by
  unfold whoR; dsimp only; split <;> (try split) <;> simp (maxDischargeDepth := 12) [h]
theorem portsP_bad (s : SideM) (w : Ws) (h : w.bad = true) : (portsP s w).2.bad = true := by
  unfold portsP; dsimp only; split <;> (try split) <;> simp (maxDischargeDepth := 12) [h]
theorem portsR_bad (s : SideM) (w : Ws) (h : w.bad = true) : (portsR s w).2.bad = true := by
  unfold portsR; dsimp only; split <;> (try split) <;> simp (maxDischargeDepth := 12) [h]
theorem sideF_bad (w : Ws) (h : w.bad = true) : (sideF w).2.bad = true := portsP_bad _ _ (whoP_bad w h)
theorem endF_bad (w : Ws) (h : w.bad = true) : (endF w).2.bad = true := portsR_bad _ _ (whoR_bad w h)
theorem pinF_bad (w : Ws) (x : Wd) (h : w.bad = true) : (pinF w x).2.bad = true := by
  unfold pinF; dsimp only; split <;> simp (maxDischargeDepth := 12) [h]
theorem pinD_bad (w : Ws) (x : Wd) (h : w.bad = true) : (pinD w x).2.bad = true := by
  unfold pinD; dsimp only; split <;> simp (maxDischargeDepth := 12) [h]
theorem flagsP_bad (w : Ws) (h : w.bad = true) : (flagsP w).2.bad = true := by
  unfold flagsP; dsimp only; split <;> simp (maxDischargeDepth := 12) [h]
theorem flagsD_bad (w : Ws) (h : w.bad = true) : (flagsD w).2.bad = true := by
  unfold flagsD; dsimp only; split <;> (try split) <;> simp (maxDischargeDepth := 12) [h]
theorem typeP_bad (w : Ws) (h : w.bad = true) : (typeP w).2.bad = true := by
  unfold typeP; dsimp only; split <;> simp (maxDischargeDepth := 12) [h]
theorem typeR_bad (w : Ws) (h : w.bad = true) : (typeR w).2.bad = true := by
  unfold typeR; dsimp only; split <;> simp (maxDischargeDepth := 12) [h]
theorem tableP_bad (w : Ws) (h : w.bad = true) : (tableP w).2.bad = true := by
  unfold tableP; dsimp only; split <;> simp (maxDischargeDepth := 12) [h]
theorem tableR_bad (w : Ws) (h : w.bad = true) : (tableR w).2.bad = true := by
  unfold tableR; dsimp only; split <;> simp (maxDischargeDepth := 12) [h]
theorem onP_bad (w : Ws) (h : w.bad = true) : (onP w).2.bad = true := by
  unfold onP; dsimp only; split <;> simp (maxDischargeDepth := 12) [h]
theorem onR_bad (w : Ws) (h : w.bad = true) : (onR w).2.bad = true := by
  unfold onR; dsimp only; split <;> simp (maxDischargeDepth := 12) [h]
theorem prP_bad (w : Ws) (h : w.bad = true) : (prP w).2.bad = true := by
  unfold prP; dsimp only; split <;> simp (maxDischargeDepth := 12) [h]
theorem prR_bad (w : Ws) (h : w.bad = true) : (prR w).2.bad = true := by
  unfold prR; dsimp only; split <;> simp (maxDischargeDepth := 12) [h]
theorem kwP_bad (w : Ws) (x : Wd) (h : w.bad = true) : (kwP w x).bad = true := by
  unfold kwP; simp (maxDischargeDepth := 12) [h]
theorem kwR_bad (w : Ws) (x : Wd) (h : w.bad = true) : (kwR w x).bad = true := by
  unfold kwR; simp (maxDischargeDepth := 12) [h]
theorem endP_bad (r : RuleM) (w : Ws) (h : w.bad = true) : endP r w = none := by unfold endP; simp [h]
theorem endP_not (r : RuleM) (w : Ws) (h : ruleR r = false) : endP r w = none := by unfold endP; simp [h]
theorem p8_bad (r : RuleM) (w : Ws) (h : w.bad = true) : p8 r w = none := endP_bad _ _ (tableP_bad w h)
theorem p7_bad (r : RuleM) (w : Ws) (h : w.bad = true) : p7 r w = none := p8_bad _ _ (pinF_bad _ _ (pinF_bad _ _ (takesP_bad w _ h)))
theorem p6_bad (r : RuleM) (w : Ws) (h : w.bad = true) : p6 r w = none := p7_bad _ _ (typeP_bad w h)
theorem p5_bad (r : RuleM) (w : Ws) (h : w.bad = true) : p5 r w = none := p6_bad _ _ (flagsP_bad w h)
theorem p4_bad (r : RuleM) (w : Ws) (h : w.bad = true) : p4 r w = none := p5_bad _ _ (sideF_bad _ (kwP_bad w _ h))
theorem p3_bad (r : RuleM) (w : Ws) (h : w.bad = true) : p3 r w = none := p4_bad _ _ (sideF_bad _ (kwP_bad w _ h))
theorem p2_bad (r : RuleM) (w : Ws) (h : w.bad = true) : p2 r w = none := p3_bad _ _ (prP_bad w h)
theorem p1_bad (r : RuleM) (w : Ws) (h : w.bad = true) : p1 r w = none := p2_bad _ _ (onP_bad _ (takesP_bad _ _ (takesP_bad w _ h)))
theorem r8_bad (r : RuleM) (w : Ws) (h : w.bad = true) : r8 r w = none := endP_bad _ _ (tableR_bad w h)
theorem r7_bad (r : RuleM) (w : Ws) (h : w.bad = true) : r7 r w = none := r8_bad _ _ (pinD_bad _ _ (pinD_bad _ _ (takesR_bad w _ h)))
theorem r6_bad (r : RuleM) (w : Ws) (h : w.bad = true) : r6 r w = none := r7_bad _ _ (typeR_bad w h)
theorem r5_bad (r : RuleM) (w : Ws) (h : w.bad = true) : r5 r w = none := r6_bad _ _ (flagsD_bad w h)
theorem r4_bad (r : RuleM) (w : Ws) (h : w.bad = true) : r4 r w = none := r5_bad _ _ (endF_bad _ (kwR_bad w _ h))
theorem r3_bad (r : RuleM) (w : Ws) (h : w.bad = true) : r3 r w = none := r4_bad _ _ (endF_bad _ (kwR_bad w _ h))
theorem r2_bad (r : RuleM) (w : Ws) (h : w.bad = true) : r2 r w = none := r3_bad _ _ (prR_bad w h)
theorem r1_bad (r : RuleM) (w : Ws) (h : w.bad = true) : r1 r w = none := r2_bad _ _ (onR_bad _ (takesR_bad _ _ (takesR_bad w _ h)))
/-! A number that is too great: the rule may not be, whatever follows. -/
def wideS (s : SideM) : Prop := 65535 < s.low ∨ 65535 < s.high
theorem sideR_wide (s : SideM) (b : Bool) (h : wideS s) : sideR s b = false := by
  unfold sideR
  have : (decide (s.low < 0) || decide (65535 < s.high) || decide (s.high < s.low) || (!b && !allP s)) = true := by
    simp only [Bool.or_eq_true, decide_eq_true_eq]
    unfold wideS at h
    omega
  rw [this]; rfl
theorem ruleR_proto (r : RuleM) (h : 255 < r.proto) : ruleR r = false := by
  unfold ruleR; simp [h]
theorem ruleR_frm (r : RuleM) (h : wideS r.frm) : ruleR r = false := by
  unfold ruleR; rw [sideR_wide _ _ h]; simp
theorem ruleR_dst (r : RuleM) (h : wideS r.dst) : ruleR r = false := by
  unfold ruleR; rw [sideR_wide _ _ h]; simp
theorem ruleR_typ (r : RuleM) (h : 255 < r.typ) : ruleR r = false := by
  unfold ruleR; simp [h]
theorem ruleR_table (r : RuleM) (h : 3 < r.table) : ruleR r = false := by
  unfold ruleR
  have : ¬ r.table < 4 := by omega
  simp [this]
def W8 (r : RuleM) : Prop := 255 < r.proto ∨ wideS r.frm ∨ wideS r.dst ∨ 255 < r.typ
def W6 (r : RuleM) : Prop := 255 < r.proto ∨ wideS r.frm ∨ wideS r.dst
def W4 (r : RuleM) : Prop := 255 < r.proto ∨ wideS r.frm
theorem p8_wide (r : RuleM) (w : Ws) (h : W8 r) : p8 r w = none := by
  refine endP_not _ _ ?_
  rcases h with h | h | h | h
  · exact ruleR_proto _ h
  · exact ruleR_frm _ h
  · exact ruleR_dst _ h
  · exact ruleR_typ _ h
theorem p7_wide (r : RuleM) (w : Ws) (h : W8 r) : p7 r w = none := p8_wide _ _ h
theorem p6_wide (r : RuleM) (w : Ws) (h : W6 r) : p6 r w = none := p7_wide _ _ (by
  rcases h with h | h | h
  · exact .inl h
  · exact .inr (.inl h)
  · exact .inr (.inr (.inl h)))
theorem p5_wide (r : RuleM) (w : Ws) (h : W6 r) : p5 r w = none := p6_wide _ _ h
theorem p4_wide (r : RuleM) (w : Ws) (h : W4 r) : p4 r w = none := p5_wide _ _ (by
  rcases h with h | h
  · exact .inl h
  · exact .inr (.inl h))
theorem p3_wide (r : RuleM) (w : Ws) (h : 255 < r.proto) : p3 r w = none := p4_wide _ _ (.inl h)
theorem takes_same (w : Ws) (x : Wd) (h : w.bad = false) : takesP w x = takesR w x := by
  unfold takesP takesR; split <;> simp [h]
/-- A number, read in both ways: the same, or too great in the one and none in the other. -/
theorem nums (w : Ws) (s : Wd) (most : Int) : numP w s = numR w s most ∨ (most < (numP w s).1 ∧ (numR w s most).2.bad = true) := by
  unfold numP numR
  by_cases h : okNum 9 s = true
  · simp only [h, if_true]
    by_cases hm : (dv s : Int) ≤ most
    · left; simp [hm, Ws.orBad]
    · right; simp [hm]; omega
  · left; simp [h]
theorem e8 (r : RuleM) (w : Ws) (h : w.bad = false) : p8 r w = r8 r w := by
  unfold p8 r8 tableP tableR
  rw [takes_same w _ h]
  dsimp only
  split
  · rcases nums (nextF (takesR w wTable).2).2 (nextF (takesR w wTable).2).1 3 with e | ⟨e1, e2⟩
    · rw [e]
    · rw [endP_not _ _ (ruleR_table _ e1), endP_bad _ _ (by simp [e2])]
  · rfl
theorem pins_eq (w : Ws) (x : Wd) (h : w.bad = false) : pinF w x = pinD w x := by
  unfold pinF pinD; rw [takes_same w x h]
theorem e7 (r : RuleM) (w : Ws) (h : w.bad = false) : p7 r w = r7 r w := by
  unfold p7 r7
  rw [takes_same w _ h]
  dsimp only
  cases h1 : (takesR w wKeep).2.bad with
  | true => rw [p8_bad _ _ (pinF_bad _ _ (pinF_bad _ _ h1)), r8_bad _ _ (pinD_bad _ _ (pinD_bad _ _ h1))]
  | false =>
    rw [pins_eq _ _ h1]
    cases h2 : (pinD (takesR w wKeep).2 wRoute).2.bad with
    | true => rw [p8_bad _ _ (pinF_bad _ _ h2), r8_bad _ _ (pinD_bad _ _ h2)]
    | false =>
      rw [pins_eq _ _ h2]
      cases h3 : (pinD (pinD (takesR w wKeep).2 wRoute).2 wReply).2.bad with
      | true => rw [p8_bad _ _ h3, r8_bad _ _ h3]
      | false => exact e8 _ _ h3
theorem e7' (r : RuleM) (w : Ws) : p7 r w = r7 r w := by
  cases h : w.bad with
  | true => rw [p7_bad _ _ h, r7_bad _ _ h]
  | false => exact e7 r w h
theorem e6 (r : RuleM) (w : Ws) (h : w.bad = false) : p6 r w = r6 r w := by
  unfold p6 r6 typeP typeR
  rw [takes_same w _ h]
  dsimp only
  split
  · rcases nums (nextF (takesR w wType).2).2 (nextF (takesR w wType).2).1 255 with e | ⟨e1, e2⟩
    · rw [e]; exact e7' _ _
    · rw [p7_wide _ _ (.inr (.inr (.inr e1))), r7_bad _ _ e2]
  · exact e7' _ _
theorem e6' (r : RuleM) (w : Ws) : p6 r w = r6 r w := by
  cases h : w.bad with
  | true => rw [p6_bad _ _ h, r6_bad _ _ h]
  | false => exact e6 r w h
@[simp] theorem orBad_false (w : Ws) : w.orBad false = w := by unfold Ws.orBad; simp
theorem flagsW_all : ∀ n : Fin 64, flagsW n.val ≠ [] ∧ 47 ∉ flagsW n.val := by decide +kernel
theorem bitsF_none (w : Ws) (s : Wd) (h : s = [] ∨ 47 ∈ s) : (bitsF w s).2.bad = true := by
  unfold bitsF
  have : ((List.range 64).find? fun n => flagsW n == s) = none := by
    rw [List.find?_eq_none]
    intro n hn
    have hn' : n < 64 := by simpa using hn
    have := flagsW_all ⟨n, hn'⟩
    rw [beq_iff_eq]
    rcases h with h | h
    · rw [h]; exact this.1
    · intro e; rw [← e] at h; exact this.2 h
  rw [this]
/-- Parts and the first cut. -/
theorem cut_parts (c : UInt8) (l : Wd) : (Lib.cut l [c] = (l, [], false) ∧ parts c l = [l]) ∨ (∃ x y, Lib.cut l [c] = (x, y, true) ∧ c ∉ y ∧ parts c l = [x, y]) ∨ (∃ x y p q ps, Lib.cut l [c] = (x, y, true) ∧ c ∈ y ∧ parts c l = x :: p :: q :: ps) := by
  by_cases h : c ∈ l
  · obtain ⟨a, r, rfl, hn⟩ := first_at c l h
    right
    rw [cut_hit c a r hn, parts_append c a r hn]
    by_cases hr : c ∈ r
    · right
      obtain ⟨b, t, rfl, hb⟩ := first_at c r hr
      rw [parts_append c b t hb]
      cases hp : parts c t with
      | nil => exact absurd hp (parts_ne c t)
      | cons q ps => exact ⟨a, b ++ c :: t, b, q, ps, rfl, hr, rfl⟩
    · left
      exact ⟨a, r, rfl, hr, by rw [parts_none c r hr]⟩
  · left
    exact ⟨cut_none c l h, parts_none c l h⟩
theorem flags_same (w : Ws) (h : w.bad = false) : flagsP w = flagsD w ∨ ((flagsP w).2.bad = true ∧ (flagsD w).2.bad = true) := by
  unfold flagsP flagsD
  rw [takes_same w _ h]
  dsimp only
  split
  · rcases cut_parts 47 (nextF (takesR w wFlags).2).1 with ⟨e1, e2⟩ | ⟨x, y, e1, hy, e2⟩ | ⟨x, y, p, q, ps, e1, hy, e2⟩
    · right
      rw [e1, e2]
      exact ⟨by simp [bitsF_none _ _ (.inl rfl)], by simp⟩
    · left
      rw [e1, e2]
    · right
      rw [e1, e2]
      exact ⟨by simp [bitsF_none _ _ (.inr hy)], by simp⟩
  · left; rfl
theorem e5' (r : RuleM) (w : Ws) : p5 r w = r5 r w := by
  cases h : w.bad with
  | true => rw [p5_bad _ _ h, r5_bad _ _ h]
  | false =>
    unfold p5 r5
    dsimp only
    rcases flags_same w h with e | ⟨e1, e2⟩
    · rw [e]; exact e6' _ _
    · rw [p6_bad _ _ e1, r6_bad _ _ e2]
theorem tab_two (s : Wd) (h : isTab s = true) (h2 : isTabR s = false) : s = [60, 62] := by
  unfold isTab at h
  unfold isTabR at h2
  simp only [Bool.and_eq_true, decide_eq_true_eq, beq_iff_eq] at h
  obtain ⟨⟨h0, h1⟩, h3⟩ := h
  rw [h1, h3] at h2
  simp at h2
  match s, h0, h1, h3, h2 with
  | [a, b], _, h1, h3, _ => simp at h1 h3; rw [h1, h3]
theorem tab_in (s : Wd) (h : isTabR s = true) : (inner s).isEmpty = false ∧ isTab s = true := by
  unfold isTabR at h
  simp only [Bool.and_eq_true, decide_eq_true_eq] at h
  refine ⟨?_, by unfold isTab; simp only [Bool.and_eq_true, decide_eq_true_eq]; exact ⟨⟨by omega, h.1.2⟩, h.2⟩⟩
  rw [List.isEmpty_eq_false_iff]
  intro e
  have := congrArg List.length e
  unfold inner at this
  simp at this
  omega
theorem who_same (w : Ws) : whoP w = whoR w ∨ ((whoP w).2.bad = true ∧ (whoR w).2.bad = true) := by
  unfold whoP whoR
  dsimp only
  by_cases h1 : (nextF w).1 = wAny
  · left; rw [if_pos h1, if_pos h1]
  · rw [if_neg h1, if_neg h1]
    cases h2 : isTabR (nextF w).1 with
    | true =>
      obtain ⟨h3, h4⟩ := tab_in _ h2
      left
      simp [h4, h3]
    | false =>
      cases h4 : isTab (nextF w).1 with
      | false => left; rfl
      | true =>
        right
        have h5 := tab_two _ h4 h2
        rw [h5]
        have e1 : (inner [60, 62]).isEmpty = true := by decide
        have e2 : (prefL [60, 62]).isNone = true := by decide +kernel
        simp [e1, e2]
theorem numP_sep (w : Ws) (y : Wd) (h : 58 ∈ y) : (numP w y).2.bad = true := by
  have hall : okNum 9 y = false := by
    have hall : y.all isDig = false := by
      rw [Bool.eq_false_iff]
      intro ha
      have := List.all_eq_true.1 ha 58 h
      exact absurd this (by decide)
    unfold okNum
    rw [hall]; simp
  unfold numP
  rw [hall]; rfl
theorem ports_same' (s : SideM) (w : Ws) (h : w.bad = false) : portsP s w = portsR s w ∨ ((wideS (portsP s w).1 ∨ (portsP s w).2.bad = true) ∧ (portsR s w).2.bad = true) := by
  unfold portsP portsR
  rw [takes_same w _ h]
  dsimp only
  split
  · rcases cut_parts 58 (nextF (takesR w wPort).2).1 with ⟨e1, e2⟩ | ⟨x, y, e1, hy, e2⟩ | ⟨x, y, p, q, ps, e1, hy, e2⟩
    · rw [e1, e2]
      simp only [Bool.false_eq_true, if_false, List.length_cons, List.length_nil, List.getD_cons_zero]
      rcases nums (nextF (takesR w wPort).2).2 (nextF (takesR w wPort).2).1 65535 with e | ⟨e3, e4⟩
      · left; rw [e]; simp
      · right; exact ⟨.inl (.inl e3), by simp [e4]⟩
    · rw [e1, e2]
      simp only [if_true, List.length_cons, List.length_nil, List.getD_cons_zero, List.getD_cons_succ]
      rcases nums (nextF (takesR w wPort).2).2 x 65535 with e | ⟨e3, e4⟩
      · rw [e]
        rcases nums (numR (nextF (takesR w wPort).2).2 x 65535).2 y 65535 with e' | ⟨e3, e4⟩
        · left; rw [e']; simp
        · right; exact ⟨.inl (.inr e3), by simp [e4]⟩
      · right
        exact ⟨.inl (.inl e3), by simp [numR_bad _ y 65535 e4]⟩
    · rw [e1, e2]
      right
      exact ⟨.inr (by simp [numP_sep _ y hy]), by simp⟩
  · left; rfl
theorem side_same (w : Ws) : sideF w = endF w ∨ ((wideS (sideF w).1 ∨ (sideF w).2.bad = true) ∧ (endF w).2.bad = true) := by
  unfold sideF endF
  dsimp only
  rcases who_same w with e | ⟨e1, e2⟩
  · rw [e]
    cases h : (whoR w).2.bad with
    | true => right; exact ⟨.inr (portsP_bad _ _ h), portsR_bad _ _ h⟩
    | false => exact ports_same' _ _ h
  · right; exact ⟨.inr (portsP_bad _ _ e1), portsR_bad _ _ e2⟩
theorem kw_same (w : Ws) (x : Wd) (h : w.bad = false) : kwP w x = kwR w x := by
  unfold kwP kwR; rw [takes_same w x h]
theorem e4' (r : RuleM) (w : Ws) : p4 r w = r4 r w := by
  cases h : w.bad with
  | true => rw [p4_bad _ _ h, r4_bad _ _ h]
  | false =>
    unfold p4 r4
    rw [kw_same w _ h]
    dsimp only
    rcases side_same (kwR w wTo) with e | ⟨e1, e2⟩
    · rw [e]; exact e5' _ _
    · rw [r5_bad _ _ e2]
      rcases e1 with e1 | e1
      · exact p5_wide _ _ (.inr (.inr e1))
      · exact p5_bad _ _ e1
theorem e3' (r : RuleM) (w : Ws) : p3 r w = r3 r w := by
  cases h : w.bad with
  | true => rw [p3_bad _ _ h, r3_bad _ _ h]
  | false =>
    unfold p3 r3
    rw [kw_same w _ h]
    dsimp only
    rcases side_same (kwR w wFrom) with e | ⟨e1, e2⟩
    · rw [e]; exact e4' _ _
    · rw [r4_bad _ _ e2]
      rcases e1 with e1 | e1
      · exact p4_wide _ _ (.inr e1)
      · exact p4_bad _ _ e1
theorem proto_same (w : Ws) : protoP w = protoR w ∨ (255 < (protoP w).1 ∧ (protoR w).2.bad = true) := by
  unfold protoP protoR
  dsimp only
  simp only [eq_comm (a := (nextF w).1)]
  split
  · left; rfl
  · split
    · left; rfl
    · split
      · left; rfl
      · rcases nums (nextF w).2 (nextF w).1 255 with e | ⟨e1, e2⟩
        · left; rw [e]
        · right; exact ⟨e1, by simp [e2]⟩
theorem e2' (r : RuleM) (w : Ws) : p2 r w = r2 r w := by
  cases h : w.bad with
  | true => rw [p2_bad _ _ h, r2_bad _ _ h]
  | false =>
    unfold p2 r2 prP prR
    rw [takes_same w _ h]
    dsimp only
    split
    · rcases proto_same (takesR w wProto).2 with e | ⟨e1, e2⟩
      · rw [e]; exact e3' _ _
      · rw [p3_wide _ _ e1, r3_bad _ _ e2]
    · exact e3' _ _
theorem takesR_keeps (w : Ws) (x : Wd) : (takesR w x).2.bad = w.bad := by
  unfold takesR; split <;> (try split) <;> rfl
theorem on_same (w : Ws) (h : w.bad = false) : onP w = onR w := by
  unfold onP onR; rw [takes_same w _ h]
theorem e1' (r : RuleM) (w : Ws) : p1 r w = r1 r w := by
  cases h : w.bad with
  | true => rw [p1_bad _ _ h, r1_bad _ _ h]
  | false =>
    unfold p1 r1
    rw [takes_same w _ h]
    dsimp only
    have h1 : (takesR w wReturn).2.bad = false := by rw [takesR_keeps, h]
    rw [takes_same _ _ h1]
    have h2 : (takesR (takesR w wReturn).2 wQuick).2.bad = false := by rw [takesR_keeps, h1]
    rw [on_same _ h2]
    exact e2' _ _
/-- The two readings are one. -/
theorem rule_same (l : List Wd) : ruleOf l = ruleOfR l := by
  unfold ruleOf ruleOfR
  dsimp only
  have hne : wBlock ≠ wPass := by decide
  match l with
  | [] => rw [p1_bad _ _ (by simp [headP, takesP]), r1_bad _ _ (by simp [headR, nextF, wPass, wBlock])]
  | h :: t =>
    by_cases h1 : h = wPass
    · subst h1
      have e1 : headP ⟨wPass :: t, false⟩ = (true, ⟨t, false⟩) := by simp [headP, takesP]
      have e2 : headR ⟨wPass :: t, false⟩ = (true, ⟨t, false⟩) := by simp [headR, nextF]
      rw [e1, e2]; exact e1' _ _
    · by_cases h2 : h = wBlock
      · subst h2
        have e1 : headP ⟨wBlock :: t, false⟩ = (false, ⟨t, false⟩) := by simp [headP, takesP, hne]
        have e2 : headR ⟨wBlock :: t, false⟩ = (false, ⟨t, false⟩) := by simp [headR, nextF, hne]
        rw [e1, e2]; exact e1' _ _
      · rw [p1_bad _ _ (by simp [headP, takesP, h1, h2]), r1_bad _ _ (by simp [headR, nextF, h1, h2])]
end Go.Proofs.YtnmbbnhgoedjgaaGreatDoor.Ru2
/- A rule's words, written and read: what is written is read as it was: plain Lean. -/
namespace Go.Proofs.YtnmbbnhgoedjgaaGreatDoor.Ru3
open Go Go.Proofs.YtnmbbnhgoedjgaaGreatDoor.St0 Go.Proofs.YtnmbbnhgoedjgaaGreatDoor.St2 Go.Proofs.YtnmbbnhgoedjgaaGreatDoor.St3 Go.Proofs.YtnmbbnhgoedjgaaGreatDoor.St4 Go.Proofs.YtnmbbnhgoedjgaaGreatDoor.Ad0 Go.Proofs.YtnmbbnhgoedjgaaGreatDoor.Ru0 Go.Proofs.YtnmbbnhgoedjgaaGreatDoor.Ru1 Go.Proofs.YtnmbbnhgoedjgaaGreatDoor.Ru2
set_option linter.unusedVariables false
set_option linter.unusedSimpArgs false
def whoW (s : SideM) : Wd := if s.any then wAny else if s.table ≠ [] then 60 :: (s.table ++ [62]) else printP s.pfx
def portsW (s : SideM) : Wd := if s.high = s.low then Lib.itoa s.low else Lib.itoa s.low ++ 58 :: Lib.itoa s.high
def tkS (s : SideM) : List Wd := whoW s :: if allP s then [] else [wPort, portsW s]
def tk8 (r : RuleM) : List Wd := if r.table = 0 then [] else [wTable, Lib.itoa r.table]
def tkPin (p : PinM) (w : Wd) : List Wd := if p.on then [w, p.iface, printL p.gate] else []
def tk7 (r : RuleM) : List Wd := (if r.keep then [wKeep] else []) ++ (tkPin r.routeTo wRoute ++ (tkPin r.replyTo wReply ++ tk8 r))
def tk6 (r : RuleM) : List Wd := (if r.typ = -1 then [] else [wType, Lib.itoa r.typ]) ++ tk7 r
def tk5 (r : RuleM) : List Wd := (if r.mask = 0 then [] else [wFlags, flagsW r.set.toNat ++ 47 :: flagsW r.mask.toNat]) ++ tk6 r
def tk4 (r : RuleM) : List Wd := wTo :: (tkS r.dst ++ tk5 r)
def tk3 (r : RuleM) : List Wd := wFrom :: (tkS r.frm ++ tk4 r)
def tk2 (r : RuleM) : List Wd := (if r.proto = 0 then [] else [wProto, protoW r.proto]) ++ tk3 r
def tk1 (r : RuleM) : List Wd := (if r.ret then [wReturn] else []) ++ ((if r.quick then [wQuick] else []) ++ ((if r.on = [] then [] else [wOn, r.on]) ++ tk2 r))
def tokens (r : RuleM) : List Wd := (if r.pass then wPass else wBlock) :: tk1 r
/-- A number of at most so much, written and read. -/
theorem itoa_of (n : Int) (h : 0 ≤ n) : Lib.itoa n = Lib.decDigits n.toNat := by unfold Lib.itoa; rw [if_neg (by omega)]
theorem len_dec (k : Nat) : ∀ n, n < 10 ^ (k + 1) → (Lib.decDigits n).length ≤ k + 1 := by
  induction k with
  | zero => intro n h; rw [Lib.decDigits, dif_pos (by simpa using h)]; simp
  | succ k ih =>
    intro n h
    rw [Lib.decDigits]
    split
    · simp
    · have := ih (n / 10) (by rw [Nat.pow_succ] at h; omega)
      simp only [List.length_append, List.length_cons, List.length_nil]
      omega
/-! Which words may stand first. -/
def hd (l S : List Wd) : Prop := ∀ x, l.head? = some x → x ∈ S
theorem hd_cons (x : Wd) (t : List Wd) : hd (x :: t) [x] := fun y h => by simp at h; simp [h]
theorem hd_opt' {l S t : List Wd} {a : Wd} (c : Prop) [Decidable c] (h : hd l S) : hd ((if c then [] else a :: t) ++ l) (a :: S) := by
  intro x hx
  by_cases hc : c
  · rw [if_pos hc] at hx
    exact List.mem_cons_of_mem _ (h x (by simpa using hx))
  · rw [if_neg hc] at hx
    simp at hx
    simp [hx]
theorem hd3 (r : RuleM) : hd (tk3 r) [wFrom] := hd_cons _ _
theorem hd2 (r : RuleM) : hd (tk2 r) [wProto, wFrom] := hd_opt' _ (hd3 r)
/-! Each step reads what was written. -/
theorem bits_all : ∀ n : Fin 64, ((List.range 64).find? fun k => flagsW k == flagsW n.val) = some n.val := by decide +kernel
theorem isF_len (p : Pfx) (h : isF p = true) : 0 ≤ p.len ∧ p.len ≤ 32 := by
  unfold isF at h
  rw [decide_eq_true_eq] at h
  have : p.len = heldF p.len := congrArg Pfx.len h
  rw [this]
  exact ⟨heldF_lo _, heldF_hi _⟩
end Go.Proofs.YtnmbbnhgoedjgaaGreatDoor.Ru3
/- A rule's words, written and read, from the sides on: plain Lean. -/
namespace Go.Proofs.YtnmbbnhgoedjgaaGreatDoor.Ru3
open Go Go.Proofs.YtnmbbnhgoedjgaaGreatDoor.St0 Go.Proofs.YtnmbbnhgoedjgaaGreatDoor.St2 Go.Proofs.YtnmbbnhgoedjgaaGreatDoor.St3 Go.Proofs.YtnmbbnhgoedjgaaGreatDoor.St4 Go.Proofs.YtnmbbnhgoedjgaaGreatDoor.Ad0 Go.Proofs.YtnmbbnhgoedjgaaGreatDoor.Ru0 Go.Proofs.YtnmbbnhgoedjgaaGreatDoor.Ru1 Go.Proofs.YtnmbbnhgoedjgaaGreatDoor.Ru2
set_option linter.unusedVariables false
set_option linter.unusedSimpArgs false
structure Facts (r : RuleM) : Prop where
  tab : 0 ≤ r.table ∧ r.table < 4
  pins : pinR r.routeTo = true ∧ pinR r.replyTo = true
  typ : -1 ≤ r.typ ∧ r.typ ≤ 255
  mask : 0 ≤ r.mask ∧ r.mask ≤ 63
  set : 0 ≤ r.set ∧ r.set ≤ r.mask
  sides : sideR r.frm (portedF r.proto) = true ∧ sideR r.dst (portedF r.proto) = true
  proto : 0 ≤ r.proto ∧ r.proto ≤ 255
theorem facts (r : RuleM) (h : ruleR r = true) (hs : r.set ≤ 9223372036854775807) : Facts r := by
  unfold ruleR at h
  simp only [if_not, Bool.and_eq_true, Bool.not_eq_true', Bool.or_eq_false_iff, decide_eq_false_iff_not, decide_eq_true_eq, Bool.not_eq_false'] at h
  obtain ⟨-, ⟨⟨-, h1, h2⟩, h3, h4⟩, ⟨⟨⟨⟨m0, m1⟩, s0⟩, s1⟩, -⟩, ⟨⟨t0, t1⟩, -⟩, ⟨⟨p0, p1⟩, b0⟩, b1⟩ := h
  have hb : bits .andNot .i64 r.set r.mask = 0 := by simpa using s1
  exact ⟨⟨b0, b1⟩, ⟨p0, p1⟩, ⟨by omega, by omega⟩, ⟨by omega, by omega⟩, set_small _ _ (by omega) hs hb (by omega) (by omega), ⟨h3, h4⟩, ⟨by omega, by omega⟩⟩
end Go.Proofs.YtnmbbnhgoedjgaaGreatDoor.Ru3
/- A rule's text: its words between blanks, and the words of a text: plain Lean. -/
namespace Go.Proofs.YtnmbbnhgoedjgaaGreatDoor.Ru4
open Go Go.Proofs.YtnmbbnhgoedjgaaGreatDoor.St0 Go.Proofs.YtnmbbnhgoedjgaaGreatDoor.St2 Go.Proofs.YtnmbbnhgoedjgaaGreatDoor.St3 Go.Proofs.YtnmbbnhgoedjgaaGreatDoor.St4 Go.Proofs.YtnmbbnhgoedjgaaGreatDoor.Ad0 Go.Proofs.YtnmbbnhgoedjgaaGreatDoor.Ru0 Go.Proofs.YtnmbbnhgoedjgaaGreatDoor.Ru1 Go.Proofs.YtnmbbnhgoedjgaaGreatDoor.Ru2 Go.Proofs.YtnmbbnhgoedjgaaGreatDoor.Ru3
set_option linter.unusedVariables false
set_option linter.unusedSimpArgs false
/-- The words of a text. -/
def wordsL (l : Wd) : List Wd := (parts 32 l).filter fun w => !w.isEmpty
/-- Words between blanks. -/
def spaced : List Wd → Wd
  | [] => []
  | a :: t => a ++ t.flatMap fun w => 32 :: w
theorem join_spaced (l : List Wd) : Lib.join l [32] = spaced l := by
  cases l with
  | nil => rfl
  | cons a t =>
    unfold spaced
    induction t generalizing a with
    | nil => simp [Lib.join, List.intercalate]
    | cons b t ih =>
      have h := ih b
      have e : Lib.join (a :: b :: t) [32] = a ++ [32] ++ Lib.join (b :: t) [32] := by
        simp [Lib.join, List.intercalate]
      rw [e, h]
      simp
/-- A word: bytes, and no blank. -/
def isW (w : Wd) : Prop := w ≠ [] ∧ (32 : UInt8) ∉ w
end Go.Proofs.YtnmbbnhgoedjgaaGreatDoor.Ru4
/- The words of a text as the library's FieldsFunc finds them, and as a loop over bytes does: plain Lean. -/
namespace Go.Proofs.YtnmbbnhgoedjgaaGreatDoor.Ru5
open Go Go.Proofs.YtnmbbnhgoedjgaaGreatDoor.St0 Go.Proofs.YtnmbbnhgoedjgaaGreatDoor.Ru0 Go.Proofs.YtnmbbnhgoedjgaaGreatDoor.Ru4
set_option linter.unusedVariables false
set_option linter.unusedSimpArgs false
def ne (w : Wd) : Bool := !w.isEmpty
theorem wordsL_eq (l : Wd) : wordsL l = (parts 32 l).filter ne := rfl
theorem parts_app (c : UInt8) : ∀ (w l : Wd) (L : List Wd) (p : Wd), c ∉ w → parts c l = L ++ [p] → parts c (l ++ w) = L ++ [p ++ w]
  | [], l, L, p, _, h => by simpa using h
  | b :: w, l, L, p, hw, h => by
    have hb : b ≠ c := fun e => hw (by simp [e])
    have h1 := parts_snoc_b c b hb l L p h
    have h2 := parts_app c w (l ++ [b]) L (p ++ [b]) (fun e => hw (by simp [e])) h1
    simpa using h2
theorem filter_end (L : List Wd) (p : Wd) : (L ++ [p]).filter ne = L.filter ne ++ (if p = [] then [] else [p]) := by
  rw [List.filter_append]
  by_cases h : p = []
  · simp [h, ne]
  · have : p.isEmpty = false := by simpa using h
    simp [h, ne, this]
theorem get_at (s : ByteArray) (i : Nat) (h : i < s.size) : s.get! i = s[i] := by
  show s.data[i]! = s.data[i]
  exact getElem!_pos s.data i h
theorem dec_blank (s : ByteArray) (i : Nat) (h : i < s.size) (hb : s[i] = 32) : Utf8.decode s i = (32, 1) := by
  rw [Lib.decode_at, get_at s i h, hb]
  rfl
theorem dec_other (s : ByteArray) (i : Nat) (h : i < s.size) (hb : s[i] ≠ 32) : (Utf8.decode s i).1 ≠ 32 ∧ 1 ≤ (Utf8.decode s i).2 ∧ i + (Utf8.decode s i).2 ≤ s.size ∧ ∀ j, i ≤ j → j < i + (Utf8.decode s i).2 → ∀ hj : j < s.size, s[j] ≠ 32 := by
  have hb' : s[i].toNat ≠ 32 := fun e => hb (UInt8.toNat_inj.1 (e.trans rfl))
  have g : ∀ k, ∀ (hk : i + k < s.size), (s.get! (i + k)).toNat / 64 = 2 → s[i + k] ≠ 32 := by
    intro k hk h2 e
    rw [get_at s (i + k) hk, e] at h2
    exact absurd h2 (by decide)
  have g1 := g 1
  have g2 := g 2
  have g3 := g 3
  rw [Lib.decode_at, get_at s i h]
  generalize hn : s[i].toNat = b0 at hb'
  generalize (s.get! (i + 1)).toNat = b1 at g1
  generalize (s.get! (i + 2)).toNat = b2 at g2
  generalize (s.get! (i + 3)).toNat = b3 at g3
  have one : ∀ r : Nat, r ≠ 32 → (r, 1).1 ≠ 32 ∧ 1 ≤ (r, 1).2 ∧ i + (r, 1).2 ≤ s.size ∧ ∀ j, i ≤ j → j < i + (r, 1).2 → ∀ hj : j < s.size, s[j] ≠ 32 := by
    intro r hr
    refine ⟨hr, Nat.le_refl _, by simp only; omega, fun j h1 h2 hj => ?_⟩
    obtain rfl : j = i := by simp only at h2; omega
    exact hb
  unfold Lib.decodeN
  split
  · exact one _ hb'
  · rename_i hb0
    split
    · rename_i c
      split
      · refine ⟨by simp only; omega, by simp only; omega, by simp only; omega, fun j h1 h2 hj => ?_⟩
        simp only at h2
        by_cases e0 : j = i
        · subst e0; exact hb
        · obtain rfl : j = i + 1 := by omega
          exact g1 hj c.2.2
      · exact one _ (by decide)
    · split
      · rename_i c
        split
        · refine ⟨by simp only; omega, by simp only; omega, by simp only; omega, fun j h1 h2 hj => ?_⟩
          simp only at h2
          by_cases e0 : j = i
          · subst e0; exact hb
          · by_cases e1 : j = i + 1
            · subst e1; exact g1 hj c.2.1.2
            · obtain rfl : j = i + 2 := by omega
              exact g2 hj c.2.2.2
        · exact one _ (by decide)
      · split
        · rename_i c
          split
          · refine ⟨by simp only; omega, by simp only; omega, by simp only; omega, fun j h1 h2 hj => ?_⟩
            simp only at h2
            by_cases e0 : j = i
            · subst e0; exact hb
            · by_cases e1 : j = i + 1
              · subst e1; exact g1 hj c.2.1.2
              · by_cases e2 : j = i + 2
                · subst e2; exact g2 hj c.2.2.1.2
                · obtain rfl : j = i + 3 := by omega
                  exact g3 hj c.2.2.2.2
          · exact one _ (by decide)
        · exact one _ (by decide)
/-- A piece of a text. -/
def ext (s : ByteArray) (x : Nat × Nat) : Wd := (s.extract x.1 x.2).data.toList
theorem ext_eq (s : ByteArray) (a b : Nat) : ext s (a, b) = (s.data.toList.take b).drop a := by
  unfold ext
  rw [ByteArray.data_extract, Array.toList_extract]
  simp [List.extract_eq_take_drop, List.drop_take]
theorem ext_len (s : ByteArray) (a b : Nat) (hb : b ≤ s.size) : (ext s (a, b)).length = b - a := by
  rw [ext_eq]
  have : s.data.toList.length = s.size := by rw [Array.length_toList]; rfl
  simp [this]; omega
theorem ext_on (s : ByteArray) (a b c : Nat) (hab : a ≤ b) (hbc : b ≤ c) : ext s (a, b) ++ ext s (b, c) = ext s (a, c) := by
  rw [ext_eq, ext_eq, ext_eq]
  have h1 : s.data.toList.take b = (s.data.toList.take c).take b := by rw [List.take_take, Nat.min_eq_left hbc]
  rw [h1]
  generalize s.data.toList.take c = l
  have h2 : List.drop b l = List.drop (b - a) (List.drop a l) := by rw [List.drop_drop]; congr 1; omega
  rw [h2, List.drop_take, List.take_append_drop]
theorem take_on (s : ByteArray) (b c : Nat) (hbc : b ≤ c) : s.data.toList.take b ++ ext s (b, c) = s.data.toList.take c := by
  rw [ext_eq]
  have h1 : s.data.toList.take b = (s.data.toList.take c).take b := by rw [List.take_take, Nat.min_eq_left hbc]
  rw [h1, List.take_append_drop]
theorem ext_mem (s : ByteArray) (a b : Nat) (hb : b ≤ s.size) (x : UInt8) (h : x ∈ ext s (a, b)) : ∃ j, a ≤ j ∧ j < b ∧ ∃ hj : j < s.size, s[j] = x := by
  rw [ext_eq] at h
  obtain ⟨k, hk, e⟩ := List.mem_iff_getElem.1 h
  simp only [List.getElem_drop, List.getElem_take, Array.getElem_toList] at e
  have hk' : k < b - a := by
    have := hk
    simp at this
    omega
  exact ⟨a + k, by omega, by omega, by omega, e⟩
/-- The pieces so far, and the piece that is open. -/
def Open (s : ByteArray) (pos : Nat) (st : Option Nat) (p : Wd) : Prop := match st with
  | none => p = []
  | some a => a < pos ∧ p = ext s (a, pos)
theorem close_none (s : ByteArray) (acc : List (Nat × Nat)) : Lib.closeSpans s (acc, none) = acc := rfl
theorem close_some (s : ByteArray) (acc : List (Nat × Nat)) (a : Nat) : Lib.closeSpans s (acc, some a) = acc ++ [(a, s.size)] := rfl
theorem take_all' (s : ByteArray) : s.data.toList.take s.size = s.data.toList := by
  rw [List.take_of_length_le]
  rw [Array.length_toList]; exact Nat.le_refl _
theorem spans_inv (s : ByteArray) : ∀ (f pos : Nat) (st : Option Nat) (acc : List (Nat × Nat)) (L : List Wd) (p : Wd), s.size - pos ≤ f → pos ≤ s.size → parts 32 (s.data.toList.take pos) = L ++ [p] → acc.map (ext s) = L.filter ne → Open s pos st p →
    (Lib.closeSpans s (Lib.spansFromP (fun r => r == 32) s f pos st acc)).map (ext s) = wordsL s.data.toList := by
  have fin : ∀ (pos : Nat) (st : Option Nat) (acc : List (Nat × Nat)) (L : List Wd) (p : Wd), pos = s.size → parts 32 (s.data.toList.take pos) = L ++ [p] → acc.map (ext s) = L.filter ne → Open s pos st p → (Lib.closeSpans s (acc, st)).map (ext s) = wordsL s.data.toList := by
    intro pos st acc L p e h1 h2 h3
    subst e
    rw [take_all'] at h1
    rw [wordsL_eq, h1, filter_end]
    cases st with
    | none =>
      obtain rfl : p = [] := h3
      rw [close_none, h2]; simp
    | some a =>
      obtain ⟨ha, rfl⟩ : a < s.size ∧ p = ext s (a, s.size) := h3
      have hne : ext s (a, s.size) ≠ [] := by
        intro e
        have := congrArg List.length e
        rw [ext_len s a s.size (Nat.le_refl _)] at this
        simp at this; omega
      rw [close_some, List.map_append, h2, if_neg hne]; rfl
  intro f
  induction f with
  | zero =>
    intro pos st acc L p hf hp h1 h2 h3
    exact fin pos st acc L p (by omega) h1 h2 h3
  | succ f ih =>
    intro pos st acc L p hf hp h1 h2 h3
    unfold Lib.spansFromP
    by_cases hlt : pos < s.size
    · rw [if_pos hlt]
      by_cases hb : s[pos] = 32
      · rw [dec_blank s pos hlt hb]
        have hnext : parts 32 (s.data.toList.take (pos + 1)) = (L ++ [p]) ++ [[]] := by
          have : s.data.toList.take (pos + 1) = s.data.toList.take pos ++ [32] := by
            rw [← take_on s pos (pos + 1) (by omega)]
            congr 1
            rw [ext_eq, List.take_succ_eq_append_getElem (by rw [Array.length_toList]; exact hlt)]
            have hl : (s.data.toList.take pos).length = pos := by
              rw [List.length_take, Array.length_toList]; exact Nat.min_eq_left hp
            rw [List.drop_append_of_le_length (by omega), List.drop_of_length_le (by omega)]
            simp only [List.nil_append, Array.getElem_toList]
            congr 1
          rw [this, parts_snoc_c, h1]
        simp only [beq_self_eq_true, if_true]
        cases st with
        | none =>
          obtain rfl : p = [] := h3
          exact ih (pos + 1) none acc (L ++ [[]]) [] (by omega) (by omega) hnext (by rw [filter_end, h2]; simp) rfl
        | some a =>
          obtain ⟨ha, rfl⟩ : a < pos ∧ p = ext s (a, pos) := h3
          have hne : ext s (a, pos) ≠ [] := by
            intro e
            have := congrArg List.length e
            rw [ext_len s a pos (by omega)] at this
            simp at this; omega
          exact ih (pos + 1) none (acc ++ [(a, pos)]) (L ++ [ext s (a, pos)]) [] (by omega) (by omega) hnext (by rw [filter_end, if_neg hne, List.map_append, h2]; rfl) rfl
      · obtain ⟨d1, d2, d3, d4⟩ := dec_other s pos hlt hb
        generalize Utf8.decode s pos = D at d1 d2 d3 d4
        obtain ⟨r, k⟩ := D
        simp only at d1 d2 d3 d4
        have hr : (r == 32) = false := by simpa using d1
        simp only [hr, Bool.false_eq_true, if_false]
        have hn : (32 : UInt8) ∉ ext s (pos, pos + k) := by
          intro hm
          obtain ⟨j, j1, j2, hj, e⟩ := ext_mem s pos (pos + k) d3 32 hm
          exact d4 j j1 j2 hj e
        have hnext : parts 32 (s.data.toList.take (pos + k)) = L ++ [p ++ ext s (pos, pos + k)] := by
          rw [← take_on s pos (pos + k) (by omega)]
          exact parts_app 32 _ _ _ _ hn h1
        cases st with
        | none =>
          obtain rfl : p = [] := h3
          exact ih (pos + k) (some pos) acc L _ (by omega) d3 hnext h2 ⟨by omega, by simp⟩
        | some a =>
          obtain ⟨ha, rfl⟩ : a < pos ∧ p = ext s (a, pos) := h3
          exact ih (pos + k) (some a) acc L _ (by omega) d3 hnext h2 ⟨by omega, ext_on s a pos (pos + k) (by omega) (by omega)⟩
    · rw [if_neg hlt]
      exact fin pos st acc L p (by omega) h1 h2 h3
/-- The library's fields between blanks are the words. -/
theorem fields_words (s : ByteArray) : (Lib.goFieldsP (fun r => r == 32) s).map (·.data.toList) = wordsL s.data.toList := by
  unfold Lib.goFieldsP
  rw [List.map_map]
  exact spans_inv s s.size 0 none [] [] [] (by omega) (by omega) rfl rfl rfl
theorem fields_len (s : ByteArray) : ∀ x ∈ Lib.goFieldsP (fun r => r == 32) s, x.size ≤ s.size := by
  intro x hx
  unfold Lib.goFieldsP at hx
  obtain ⟨y, -, rfl⟩ := List.mem_map.1 hx
  rw [ByteArray.size_extract]; omega
end Go.Proofs.YtnmbbnhgoedjgaaGreatDoor.Ru5

