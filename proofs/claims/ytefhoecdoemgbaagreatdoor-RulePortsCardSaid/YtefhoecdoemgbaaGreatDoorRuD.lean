/- rule.words.look: flags and a type, read. -/
import Derived.Test.YtefhoecdoemgbaaGreatDoorRuB
namespace Go.Proofs.YtefhoecdoemgbaaGreatDoor.RuC
open Go Go.RowKit Go.Proofs.YtefhoecdoemgbaaGreatDoor.Ad0 Go.Proofs.YtefhoecdoemgbaaGreatDoor.Ad1 Go.Proofs.YtefhoecdoemgbaaGreatDoor.Ad3 Go.Proofs.YtefhoecdoemgbaaGreatDoor.St0 Go.Proofs.YtefhoecdoemgbaaGreatDoor.St1 Go.Proofs.YtefhoecdoemgbaaGreatDoor.St2 Go.Proofs.YtefhoecdoemgbaaGreatDoor.St3 Go.Proofs.YtefhoecdoemgbaaGreatDoor.St4 Go.Proofs.YtefhoecdoemgbaaGreatDoor.StA Go.Proofs.YtefhoecdoemgbaaGreatDoor.Ru0 Go.Proofs.YtefhoecdoemgbaaGreatDoor.Ru1 Go.Proofs.YtefhoecdoemgbaaGreatDoor.Ru6 Go.Proofs.YtefhoecdoemgbaaGreatDoor.Ru7 Go.Proofs.YtefhoecdoemgbaaGreatDoor.Ru8 Go.Proofs.YtefhoecdoemgbaaGreatDoor.Ru9 Go.Proofs.YtefhoecdoemgbaaGreatDoor.RuB
set_option linter.unusedVariables false
set_option linter.unusedSimpArgs false

/-- A rule's cells. -/
def ruleC (r : RuleM) : Array Value := #[.bool r.pass, .bool r.ret, .bool r.quick, .string ⟨r.on.toArray⟩, .int .i64 r.proto,
  .bool r.frm.any, .string ⟨r.frm.table.toArray⟩, .int .u32 (r.frm.pfx.addr : Nat), .int .i64 r.frm.pfx.len, .int .i64 r.frm.low, .int .i64 r.frm.high,
  .bool r.dst.any, .string ⟨r.dst.table.toArray⟩, .int .u32 (r.dst.pfx.addr : Nat), .int .i64 r.dst.pfx.len, .int .i64 r.dst.low, .int .i64 r.dst.high,
  .int .i64 r.set, .int .i64 r.mask, .int .i64 r.typ, .bool r.keep, .bool r.routeTo.on, .string ⟨r.routeTo.iface.toArray⟩, .int .u32 (r.routeTo.gate : Nat), .bool r.replyTo.on, .string ⟨r.replyTo.iface.toArray⟩, .int .u32 (r.replyTo.gate : Nat), .int .i64 r.table]

/-- While a rule is read: the reader, the rule so far; what lay before is as it was. -/
structure PSt (W0 : World) (g gr : Nat) (r : RuleM) (ws : Ws) (W : World) : Prop where
  rd : Rd 53 W g ws
  row : W.heap[gr]? = some (.cells (ruleC r) 32 (0, 0))
  low : Below g W0 W
  lib : LibOK W
  hg : g < gr
  G : LibLow g
theorem PSt.call {W0 W W3 : World} {g gr : Nat} {r : RuleM} {ws ws' : Ws} (h : PSt W0 g gr r ws W) (hr : Rd 53 W3 g ws') (hu : Upto g W W3) : PSt W0 g gr r ws' W3 :=
  ⟨hr, hu.row h.row (Nat.ne_of_gt h.hg), h.low.trans (hu.low (Nat.le_of_lt h.rd.lt)), lib_upto h.lib hu h.G (Nat.le_of_lt h.rd.lt), h.hg, h.G⟩
theorem PSt.below {W0 W W3 : World} {g gr : Nat} {r : RuleM} {ws : Ws} (h : PSt W0 g gr r ws W) (hb : Below W.heap.size W W3) : PSt W0 g gr r ws W3 :=
  h.call (h.rd.below hb) (Upto.of_below hb)
theorem PSt.draw {W0 W : World} {g gr : Nat} {r : RuleM} {ws : Ws} (h : PSt W0 g gr r ws W) (n : Nat) : PSt W0 g gr r ws (W.drewN n) := h.below (bdrewN (Below.refl _ _) n)
theorem PSt.bad {W0 W : World} {g gr : Nat} {r : RuleM} {ws : Ws} (h : PSt W0 g gr r ws W) (b : Bool) : PSt W0 g gr r ⟨ws.l, b⟩ (W.setCell ⟨g, 1, none⟩ (.bool b)) := h.call (h.rd.bad b) (Upto.refl _ _).set
theorem PSt.put {W0 W : World} {g gr k : Nat} {r r' : RuleM} {ws : Ws} {v : Value} (h : PSt W0 g gr r ws W) (he : (ruleC r).setIfInBounds k v = ruleC r') : PSt W0 g gr r' ws (W.setCell ⟨gr, k, none⟩ v) :=
  ⟨h.rd.above (set_b (Below.refl _ _) h.hg), by rw [← he]; exact set_at h.row, set_b h.low (Nat.le_of_lt h.hg), lib_low h.lib (set_b (Below.refl _ _) (Nat.le_of_lt h.hg)) h.G, h.hg, h.G⟩
theorem PSt.cell {W0 W : World} {g gr : Nat} {r : RuleM} {ws : Ws} (h : PSt W0 g gr r ws W) (k : Nat) : W.cell? ⟨gr, k, none⟩ = (ruleC r)[k]? := cell_of_row _ _ _ _ _ _ h.row
theorem PSt.free {W0 W : World} {g gr : Nat} {r : RuleM} {ws : Ws} (h : PSt W0 g gr r ws W) (k : Nat) : W.frozen? ⟨gr, k, none⟩ = false := frozen_of_row _ _ _ _ _ h.row

def lookF (r : RuleM) (w : Ws) : RuleM × Ws := ({ r with set := (flagsP w).1.1, mask := (flagsP w).1.2, typ := (typeP (flagsP w).2).1 }, (typeP (flagsP w).2).2)
theorem flagsP_eq (w : Ws) : flagsP w = (if (takesP w wFlags).1 then ((((bitsF (nextF (takesP w wFlags).2).2 (Lib.cut (nextF (takesP w wFlags).2).1 [47]).1)).1, (bitsF (bitsF (nextF (takesP w wFlags).2).2 (Lib.cut (nextF (takesP w wFlags).2).1 [47]).1).2 (Lib.cut (nextF (takesP w wFlags).2).1 [47]).2.1).1),
  (bitsF (bitsF (nextF (takesP w wFlags).2).2 (Lib.cut (nextF (takesP w wFlags).2).1 [47]).1).2 (Lib.cut (nextF (takesP w wFlags).2).1 [47]).2.1).2.orBad ((bitsF (bitsF (nextF (takesP w wFlags).2).2 (Lib.cut (nextF (takesP w wFlags).2).1 [47]).1).2 (Lib.cut (nextF (takesP w wFlags).2).1 [47]).2.1).1 == 0)) else ((0, 0), (takesP w wFlags).2)) := rfl

theorem typeP_eq (w : Ws) : typeP w = (if (takesP w wType).1 then numP (nextF (takesP w wType).2).2 (nextF (takesP w wType).2).1 else (-1, (takesP w wType).2)) := rfl
set_option maxHeartbeats 2000000 in
theorem look_any (W0 : World) (g gr : Nat) (r : RuleM) (ws : Ws) (W : World) (h : PSt W0 g gr r ws W) (h0 : r.set = 0) (h1 : r.mask = 0) :
    Calls Tryz.prog 29 #[.pointer (some ⟨g, 0, none⟩), .pointer (some ⟨gr, 0, none⟩)] W fun e w' => e = .returned (.tuple #[]) ∧ PSt W0 g gr (lookF r ws).1 (lookF r ws).2 w' := by
  have HS0 := Lib.hid h
  have KT := Lib.hid (fun W' hr => takes_any g ws #[102, 108, 97, 103, 115] W' hr)
  have hw : (#[102, 108, 97, 103, 115] : Array UInt8).toList = wFlags := rfl
  rw [hw] at KT
  have HF := Lib.hid (flagsP_eq ws)
  have hne := Nat.ne_of_gt h.hg
  have hne2 := Nat.ne_of_lt h.hg
  have c19 := h.cell 19
  have f19 := h.free 19
  have e19 : (ruleC r)[19]? = some (.int .i64 r.typ) := rfl
  rw [e19] at c19
  clear h e19 hw
  generalize takesP ws wFlags = tk at KT HF
  obtain ⟨tb, w1⟩ := tk
  dsimp only at KT HF
  go_enter Tryz.func29, Tryz.ntmps29
  go_wp2_with fail
  have HS1 := Lib.hid (HS0.out.put (k := 19) (r' := { r with typ := -1 }) rfl)
  clear c19 f19
  refine (KT.out _ HS1.out.rd).mono ?_
  rintro e W1 ⟨rfl, hr1, hu1⟩
  have HS2 := Lib.hid (HS1.out.call hr1 hu1)
  clear hr1 hu1
  go_upto_if 11 with fail
  go_cut [] (fun wc => PSt W0 g gr { r with set := (flagsP ws).1.1, mask := (flagsP ws).1.2, typ := -1 } (flagsP ws).2 wc)
  case first =>
    cases tb with
    | false =>
      have hF : flagsP ws = ((0, 0), w1) := HF.out
      have HFF := Lib.hid hF
      clear hF
      go_wp2_with fail
      go_meet
      case rel =>
        rw [HFF.out]
        have hh := HS2.out
        rw [show ({ r with set := 0, mask := 0, typ := -1 } : RuleM) = { r with typ := -1 } from by cases r; simp only at h0 h1; subst h0; subst h1; rfl]
        exact hh
    | true =>
      have KN := Lib.hid (fun W' hr => next_any g w1 W' hr)
      have KS := Lib.hid (fun W' (hr : Rd 53 W' g w1) => nextF_short hr)
      generalize nextF w1 = n at KN KS HF
      obtain ⟨y, w2⟩ := n
      dsimp only at KN KS HF
      have KC := Lib.hid (fun W' hs hl => cut_two y 47 hs W' hl)
      generalize Lib.cut y [47] = c at KC HF
      obtain ⟨x1, x2, ok⟩ := c
      dsimp only at KC HF
      have KM := Lib.hid (fun W' hr => bits_any g w2 ⟨x1.toArray⟩ W' hr)
      have hx1 : (⟨x1.toArray⟩ : ByteArray).data.toList = x1 := rfl
      rw [hx1] at KM
      generalize bitsF w2 x1 = m at KM HF
      obtain ⟨a, w3⟩ := m
      dsimp only at KM HF
      have KM2 := Lib.hid (fun W' hr => bits_any g w3 ⟨x2.toArray⟩ W' hr)
      have hx2 : (⟨x2.toArray⟩ : ByteArray).data.toList = x2 := rfl
      rw [hx2] at KM2
      generalize bitsF w3 x2 = m2 at KM2 HF
      obtain ⟨b, w4⟩ := m2
      dsimp only at KM2 HF
      clear hx1 hx2
      have hF : flagsP ws = ((a, b), w4.orBad (b == 0)) := HF.out
      have HFF := Lib.hid hF
      clear hF HF
      cases hbad : w4.bad <;> cases hz : (b == 0)
      all_goals
        have HBAD := Lib.hid hbad
        have HZ := Lib.hid hz
        clear hbad
        go_wp2_with fail
        refine (KN.out _ HS2.out.rd).mono ?_; rintro e W3 ⟨rfl, hr1, hu1⟩; have KS3 := Lib.hid (KS.out _ HS2.out.rd); have HS3 := Lib.hid (HS2.out.call hr1 hu1); clear hr1 hu1
        go_wp2_with fail
        refine (KC.out _ KS3.out HS3.out.lib).mono ?_; rintro e W4 ⟨rfl, nd, rfl⟩; have HS4 := Lib.hid (HS3.out.draw nd)
        go_wp2_with fail
        refine (KM.out _ HS4.out.rd).mono ?_; rintro e W5 ⟨rfl, hr1, hu1⟩; have HS5 := Lib.hid (HS4.out.call hr1 hu1); clear hr1 hu1
        go_wp2_with fail
        refine (KM2.out _ HS5.out.rd).mono ?_; rintro e W6 ⟨rfl, hr1, hu1⟩; have HS6 := Lib.hid (HS5.out.call hr1 hu1); clear hr1 hu1
        have c17 : W6.cell? ⟨gr, 17, none⟩ = some (.int .i64 r.set) := HS6.out.cell 17
        have c18 : W6.cell? ⟨gr, 18, none⟩ = some (.int .i64 r.mask) := HS6.out.cell 18
        have f17 := HS6.out.free 17
        have f18 := HS6.out.free 18
        obtain ⟨c1, f1⟩ := HS6.out.rd.cells
        rw [HBAD.out] at c1
        go_wp2_with fail
        go_meet
        case rel =>
          rw [HFF.out, orBad_eq, HBAD.out, HZ.out]
          exact ((HS6.out.put (k := 17) (r' := { r with typ := -1, set := a }) rfl).put (k := 18) (r' := { r with typ := -1, set := a, mask := b }) rfl).bad _
  case rest =>
    have HS3 := Lib.hid hcut
    clear hcut HS2 HS1 HS0 HF KT
    have hL : lookF r ws = ({ r with set := (flagsP ws).1.1, mask := (flagsP ws).1.2, typ := (typeP (flagsP ws).2).1 }, (typeP (flagsP ws).2).2) := rfl
    have HL := Lib.hid hL
    clear hL
    generalize flagsP ws = fl at HS3 HL
    obtain ⟨⟨a, b⟩, w5⟩ := fl
    dsimp only at HS3 HL
    have HT := Lib.hid (typeP_eq w5)
    have KT := Lib.hid (fun W' hr => takes_any g w5 #[116, 121, 112, 101] W' hr)
    have hw : (#[116, 121, 112, 101] : Array UInt8).toList = wType := rfl
    rw [hw] at KT
    clear hw
    generalize takesP w5 wType = tk at KT HT
    obtain ⟨tb, w6⟩ := tk
    dsimp only at KT HT
    cases tb with
    | false =>
      have hT : typeP w5 = (-1, w6) := HT.out
      have HTT := Lib.hid hT
      clear hT
      go_wp2_with fail
      refine (KT.out _ HS3.out.rd).mono ?_; rintro e W7 ⟨rfl, hr1, hu1⟩; have HS4 := Lib.hid (HS3.out.call hr1 hu1); clear hr1 hu1
      go_wp2_with fail
      refine bodyPost_end (results_none rfl _ _ _) rfl ?_
      exact ⟨rfl, by rw [HL.out, HTT.out]; exact HS4.out⟩
    | true =>
      have KN := Lib.hid (fun W' hr => next_any g w6 W' hr)
      have KS := Lib.hid (fun W' (hr : Rd 53 W' g w6) => nextF_short hr)
      generalize nextF w6 = n at KN KS HT
      obtain ⟨y, w7⟩ := n
      dsimp only at KN KS HT
      have KM := Lib.hid (fun W' hs hr => number_any g w7 ⟨y.toArray⟩ hs W' hr)
      have hx1 : (⟨y.toArray⟩ : ByteArray).data.toList = y := rfl
      rw [hx1] at KM
      generalize numP w7 y = m at KM HT
      obtain ⟨v, w8⟩ := m
      dsimp only at KM HT
      have hT : typeP w5 = (v, w8) := HT.out
      have HTT := Lib.hid hT
      clear hT hx1
      go_wp2_with fail
      refine (KT.out _ HS3.out.rd).mono ?_; rintro e W7 ⟨rfl, hr1, hu1⟩; have HS4 := Lib.hid (HS3.out.call hr1 hu1); clear hr1 hu1
      go_wp2_with fail
      refine (KN.out _ HS4.out.rd).mono ?_; rintro e W8 ⟨rfl, hr1, hu1⟩; have KS4 := Lib.hid (KS.out _ HS4.out.rd); have HS5 := Lib.hid (HS4.out.call hr1 hu1); clear hr1 hu1
      go_wp2_with fail
      refine (KM.out _ (by rw [wd_size]; have := KS4.out; omega) HS5.out.rd).mono ?_; rintro e W9 ⟨rfl, hr1, hu1⟩; have HS6 := Lib.hid (HS5.out.call hr1 hu1); clear hr1 hu1
      have c19 : W9.cell? ⟨gr, 19, none⟩ = some (.int .i64 (-1)) := HS6.out.cell 19
      have f19 := HS6.out.free 19
      go_wp2_with fail
      refine bodyPost_end (results_none rfl _ _ _) rfl ?_
      exact ⟨rfl, by rw [HL.out, HTT.out]; exact HS6.out.put (k := 19) rfl⟩
end Go.Proofs.YtefhoecdoemgbaaGreatDoor.RuC
/- A rule by value: its cells; rule.Name, isPin, isSide, isPass, isLook and Is. -/
namespace Go.Proofs.YtefhoecdoemgbaaGreatDoor.RuD
open Go Go.RowKit Go.Proofs.YtefhoecdoemgbaaGreatDoor.Ad0 Go.Proofs.YtefhoecdoemgbaaGreatDoor.Ad1 Go.Proofs.YtefhoecdoemgbaaGreatDoor.Ad3 Go.Proofs.YtefhoecdoemgbaaGreatDoor.St0 Go.Proofs.YtefhoecdoemgbaaGreatDoor.St1 Go.Proofs.YtefhoecdoemgbaaGreatDoor.St2 Go.Proofs.YtefhoecdoemgbaaGreatDoor.St3 Go.Proofs.YtefhoecdoemgbaaGreatDoor.St4 Go.Proofs.YtefhoecdoemgbaaGreatDoor.StA Go.Proofs.YtefhoecdoemgbaaGreatDoor.Ru0 Go.Proofs.YtefhoecdoemgbaaGreatDoor.Ru1 Go.Proofs.YtefhoecdoemgbaaGreatDoor.Ru6 Go.Proofs.YtefhoecdoemgbaaGreatDoor.Ru7 Go.Proofs.YtefhoecdoemgbaaGreatDoor.Ru8 Go.Proofs.YtefhoecdoemgbaaGreatDoor.Ru9 Go.Proofs.YtefhoecdoemgbaaGreatDoor.RuB Go.Proofs.YtefhoecdoemgbaaGreatDoor.RuC
set_option linter.unusedVariables false
set_option linter.unusedSimpArgs false

theorem rc0 (r : RuleM) : (ruleC r)[0]? = some (.bool r.pass) := rfl
theorem rc1 (r : RuleM) : (ruleC r)[1]? = some (.bool r.ret) := rfl
theorem rc2 (r : RuleM) : (ruleC r)[2]? = some (.bool r.quick) := rfl
theorem rc3 (r : RuleM) : (ruleC r)[3]? = some (.string ⟨r.on.toArray⟩) := rfl
theorem rc4 (r : RuleM) : (ruleC r)[4]? = some (.int .i64 r.proto) := rfl
theorem rc5 (r : RuleM) : (ruleC r)[5]? = some (.bool r.frm.any) := rfl
theorem rc6 (r : RuleM) : (ruleC r)[6]? = some (.string ⟨r.frm.table.toArray⟩) := rfl
theorem rc7 (r : RuleM) : (ruleC r)[7]? = some (.int .u32 (r.frm.pfx.addr : Nat)) := rfl
theorem rc8 (r : RuleM) : (ruleC r)[8]? = some (.int .i64 r.frm.pfx.len) := rfl
theorem rc9 (r : RuleM) : (ruleC r)[9]? = some (.int .i64 r.frm.low) := rfl
theorem rc10 (r : RuleM) : (ruleC r)[10]? = some (.int .i64 r.frm.high) := rfl
theorem rc11 (r : RuleM) : (ruleC r)[11]? = some (.bool r.dst.any) := rfl
theorem rc12 (r : RuleM) : (ruleC r)[12]? = some (.string ⟨r.dst.table.toArray⟩) := rfl
theorem rc13 (r : RuleM) : (ruleC r)[13]? = some (.int .u32 (r.dst.pfx.addr : Nat)) := rfl
theorem rc14 (r : RuleM) : (ruleC r)[14]? = some (.int .i64 r.dst.pfx.len) := rfl
theorem rc15 (r : RuleM) : (ruleC r)[15]? = some (.int .i64 r.dst.low) := rfl
theorem rc16 (r : RuleM) : (ruleC r)[16]? = some (.int .i64 r.dst.high) := rfl
theorem rc17 (r : RuleM) : (ruleC r)[17]? = some (.int .i64 r.set) := rfl
theorem rc18 (r : RuleM) : (ruleC r)[18]? = some (.int .i64 r.mask) := rfl
theorem rc19 (r : RuleM) : (ruleC r)[19]? = some (.int .i64 r.typ) := rfl
theorem rc20 (r : RuleM) : (ruleC r)[20]? = some (.bool r.keep) := rfl
theorem rc21 (r : RuleM) : (ruleC r)[21]? = some (.bool r.routeTo.on) := rfl
theorem rc22 (r : RuleM) : (ruleC r)[22]? = some (.string ⟨r.routeTo.iface.toArray⟩) := rfl
theorem rc23 (r : RuleM) : (ruleC r)[23]? = some (.int .u32 (r.routeTo.gate : Nat)) := rfl
theorem rc24 (r : RuleM) : (ruleC r)[24]? = some (.bool r.replyTo.on) := rfl
theorem rc25 (r : RuleM) : (ruleC r)[25]? = some (.string ⟨r.replyTo.iface.toArray⟩) := rfl
theorem rc26 (r : RuleM) : (ruleC r)[26]? = some (.int .u32 (r.replyTo.gate : Nat)) := rfl
theorem rc27 (r : RuleM) : (ruleC r)[27]? = some (.int .i64 r.table) := rfl

def signs : Wd := [97, 98, 99, 100, 101, 102, 103, 104, 105, 106, 107, 108, 109, 110, 111, 112, 113, 114, 115, 116, 117, 118, 119, 120, 121, 122, 48, 49, 50, 51, 52, 53, 54, 55, 56, 57]
theorem signs_has (b : UInt8) : signs.contains b = isSign b := by
  have : ∀ n : Fin 256, signs.contains (UInt8.ofNat n.val) = isSign (UInt8.ofNat n.val) := by decide +kernel
  have h := this ⟨b.toNat, b.toNat_lt⟩
  simpa using h
theorem trim_signs (l : Wd) : (Lib.trimS l signs).isEmpty = l.all isSign := by
  have hf : (fun b => signs.contains b) = isSign := by funext b; exact signs_has b
  have key : Lib.trimS l signs = [] ↔ l.all isSign = true := by
    unfold Lib.trimS Lib.trimLeftS Lib.trimRightS
    simp only [hf]
    rw [dropWhile_nil]
    constructor
    · intro h
      have h1 : ∀ x ∈ l.reverse.dropWhile isSign, isSign x = true := fun x hx => (List.all_eq_true.1 h) x (by simpa using hx)
      have h2 : l.reverse.dropWhile isSign = [] := by
        cases hd : l.reverse.dropWhile isSign with
        | nil => rfl
        | cons b t =>
          have hb : isSign b = true := h1 b (by rw [hd]; simp)
          have := List.head_dropWhile_not (p := isSign) (l := l.reverse) (by rw [hd]; simp)
          simp [hd, hb] at this
      rw [dropWhile_nil] at h2
      simpa using h2
    · intro h
      have h2 : l.reverse.dropWhile isSign = [] := by rw [dropWhile_nil]; simpa using h
      rw [h2]; rfl
  rw [Bool.eq_iff_iff, List.isEmpty_iff]
  exact key
theorem trim_name (s : Wd) (w : World) (hs : s.length ≤ 9223372036854775807) :
    Calls Tryz.prog 40 #[.string ⟨s.toArray⟩, .string ⟨#[97, 98, 99, 100, 101, 102, 103, 104, 105, 106, 107, 108, 109, 110, 111, 112, 113, 114, 115, 116, 117, 118, 119, 120, 121, 122, 48, 49, 50, 51, 52, 53, 54, 55, 56, 57]⟩] w fun e w' => e = .returned (.string ⟨(Lib.trimS s signs).toArray⟩) ∧ Below w.heap.size w w' := by
  have h := Any.strings_Trim_laid Tryz.lays160 (by kernel_rfl) ⟨s.toArray⟩ ⟨#[97, 98, 99, 100, 101, 102, 103, 104, 105, 106, 107, 108, 109, 110, 111, 112, 113, 114, 115, 116, 117, 118, 119, 120, 121, 122, 48, 49, 50, 51, 52, 53, 54, 55, 56, 57]⟩ w (by rw [wd_size]; exact hs) (by decide) (ascii_of_all (by decide))
  exact h
theorem name_any (s : Wd) (hs : s.length ≤ 9223372036854775807) (w : World) :
    Calls Tryz.prog 12 #[.string ⟨s.toArray⟩] w fun e w' => e = .returned (.bool (nameL s)) ∧ Below w.heap.size w w' := by
  have HT := Lib.hid (trim_name s w hs)
  have HS := Lib.hid (trim_signs s)
  unfold nameL
  rw [← HS.out]
  generalize Lib.trimS s signs = tr at HT ⊢
  cases h0 : s.isEmpty with
  | true =>
    go_enter Tryz.func12, Tryz.ntmps12
    go_wp2_with fail
    go_ret
    exact ⟨rfl, Below.refl _ _⟩
  | false =>
    by_cases h8 : s.length ≤ 8
    · have hd : decide (s.length ≤ 8) = true := by simpa using h8
      rw [hd]
      clear hd
      cases h1 : tr.isEmpty
      all_goals
        go_enter Tryz.func12, Tryz.ntmps12
        go_wp2_with (go_at_call 40; refine HT.out.mono ?_; rintro e w1 ⟨rfl, hb1⟩)
        go_ret
        exact ⟨by simp [h1], hb1⟩
    · have hd : decide (s.length ≤ 8) = false := by simpa using h8
      rw [hd]
      go_enter Tryz.func12, Tryz.ntmps12
      go_wp2_with fail
      go_ret
      exact ⟨rfl, Below.refl _ _⟩
end Go.Proofs.YtefhoecdoemgbaaGreatDoor.RuD
