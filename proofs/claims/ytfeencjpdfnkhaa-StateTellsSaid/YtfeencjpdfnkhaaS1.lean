/- Contracts of the functions of package state, of its reference, and of the law's helpers: what each returns, as a plain Lean function. -/
import Derived.Test.YtfeencjpdfnkhaaProg
import Derived.WalkKit
import Derived.WalkSpells
import Derived.Below
import Derived.Laws.Rows
namespace Go.Proofs.Ytfeencjpdfnkhaa.S1
open Go.RowKit

theorem bnew (w : World) (o : Obj) : Below w.heap.size w (w.alloc o) := (Below.refl _ _).alloc (Nat.le_refl _) _

def beginF (cls proto flags type : Int) : Int × Bool :=
  if cls = 2 then (0, false)
  else if proto = 6 then (if bits .and .i64 flags 23 = 2 then (1, true) else (0, false))
  else if proto = 17 then (7, true)
  else if proto = 1 then (if type = 8 ∨ type = 13 then (9, true) else (0, false))
  else (10, true)

def finF (state : Int) (back : Bool) : Int :=
  if state = 3 then (if back then 5 else 4)
  else if state = 4 ∧ back = true then 6
  else if state = 5 ∧ back = false then 6
  else state

def stepF (state : Int) (back : Bool) (flags : Int) : Int :=
  if state = 7 ∧ back = true then 8
  else if state < 1 ∨ state > 6 then state
  else if bits .and .i64 flags 4 ≠ 0 then 6
  else if state = 1 ∧ back = true ∧ bits .and .i64 flags 2 ≠ 0 ∧ bits .and .i64 flags 16 ≠ 0 then 2
  else if state = 2 ∧ back = false ∧ bits .and .i64 flags 16 ≠ 0 ∧ bits .and .i64 flags 2 = 0 then 3
  else if bits .and .i64 flags 1 ≠ 0 then finF state back
  else state

def ticksF (state : Int) : Int :=
  if state = 1 ∨ state = 2 ∨ state = 7 ∨ state = 10 then 30
  else if state = 3 then 3600
  else if state = 4 ∨ state = 5 ∨ state = 8 then 60
  else if state = 9 then 10
  else if state = 6 then 5
  else 0

/-- What the functions read of a packet: its protocol, class, flags, type. -/
structure Pk (cs : Array Value) (proto cls flags type : Int) : Prop where
  h6 : cs[6]? = some (.int .i64 proto)
  h11 : cs[11]? = some (.int .i64 cls)
  h14 : cs[14]? = some (.int .i64 flags)
  h15 : cs[15]? = some (.int .i64 type)

theorem begin_any (cs : Array Value) (proto cls flags type : Int) (h : Pk cs proto cls flags type) (w : World) :
    Calls Try.prog 12 #[.agg cs] w
      fun e w' => e = .returned (.tuple #[.int .i64 (beginF cls proto flags type).1, .bool (beginF cls proto flags type).2]) ∧ w.alloc (.cells cs 36) = w' := by
  obtain ⟨h6, h11, h14, h15⟩ := h
  go_enter Try.func12, Try.ntmps12
  go_wp2
  all_goals (go_ret2; exact ⟨by simp_all [beginF], rfl⟩)

theorem rbegin_any (cs : Array Value) (proto cls flags type : Int) (h : Pk cs proto cls flags type) (w : World) :
    Calls Try.prog 13 #[.agg cs] w
      fun e w' => e = .returned (.tuple #[.int .i64 (beginF cls proto flags type).1, .bool (beginF cls proto flags type).2]) ∧ w.alloc (.cells cs 36) = w' := by
  obtain ⟨h6, h11, h14, h15⟩ := h
  go_enter Try.func13, Try.ntmps13
  go_wp2
  all_goals (go_ret2; exact ⟨by simp_all [beginF], rfl⟩)

set_option maxHeartbeats 400000 in
theorem fin_any (state : Int) (back : Bool) (w : World) :
    Calls Try.prog 16 #[.int .i64 state, .bool back] w fun e w' => e = .returned (.int .i64 (finF state back)) ∧ w = w' := by
  cases back
  all_goals
    go_enter Try.func16, Try.ntmps16
    go_wp2
    all_goals (go_ret; exact ⟨by simp_all [finF], rfl⟩)

set_option maxHeartbeats 1000000 in
theorem step_any (state : Int) (back : Bool) (flags : Int) (w : World) :
    Calls Try.prog 8 #[.int .i64 state, .bool back, .int .i64 flags] w fun e w' => e = .returned (.int .i64 (stepF state back flags)) ∧ w = w' := by
  cases back
  all_goals
    go_enter Try.func8, Try.ntmps8
    go_wp2_with (go_at_call 16; refine (fin_any _ _ _).mono ?_; rintro e w' ⟨rfl, rfl⟩)
    all_goals (go_ret; exact ⟨by simp_all [stepF] <;> omega, rfl⟩)

set_option maxHeartbeats 1000000 in
theorem rstep_any (state : Int) (back : Bool) (flags : Int) (w : World) :
    Calls Try.prog 14 #[.int .i64 state, .bool back, .int .i64 flags] w fun e w' => e = .returned (.int .i64 (stepF state back flags)) ∧ w = w' := by
  cases back
  all_goals
    go_enter Try.func14, Try.ntmps14
    go_wp2
    all_goals (go_ret; exact ⟨by simp_all [stepF, finF] <;> omega, rfl⟩)

set_option maxHeartbeats 1000000 in
theorem ticks_any (state : Int) (w : World) :
    Calls Try.prog 10 #[.int .i64 state] w fun e w' => e = .returned (.int .i64 (ticksF state)) ∧ w = w' := by
  go_enter Try.func10, Try.ntmps10
  go_wp2
  all_goals (go_ret; exact ⟨by simp_all [ticksF], rfl⟩)

set_option maxHeartbeats 1000000 in
theorem rticks_any (state : Int) (w : World) :
    Calls Try.prog 15 #[.int .i64 state] w fun e w' => e = .returned (.int .i64 (ticksF state)) ∧ w = w' := by
  go_enter Try.func15, Try.ntmps15
  go_wp2
  all_goals (go_ret; exact ⟨by simp_all [ticksF], rfl⟩)

theorem known_any (w : World) :
    Calls Try.prog 9 #[] w fun e w' => e = .returned (.bool true) ∧ w = w' := by
  have h1 : stepF 1 true 18 = 2 := by decide +kernel
  have h2 : ticksF 3 = 3600 := by decide +kernel
  go_enter Try.func9, Try.ntmps9
  go_wp2_with (first | (go_at_call 8; refine (step_any _ _ _ _).mono ?_; rintro e w' ⟨rfl, rfl⟩) | (go_at_call 10; refine (ticks_any _ _).mono ?_; rintro e w' ⟨rfl, rfl⟩))
  go_ret
  exact ⟨rfl, rfl⟩

theorem long_any (cs : Array Value) (A B : Option Addr) (n m a b : Nat) (h9 : cs[9]? = some (.slice A n a)) (h10 : cs[10]? = some (.slice B m b)) (w : World) :
    Calls Try.prog 11 #[.agg cs] w
      fun e w' => e = .returned (.bool (decide ((60 : Int) < n) || decide ((1500 : Int) < m))) ∧ w.alloc (.cells cs 36) = w' := by
  go_enter Try.func11, Try.ntmps11
  go_wp2
  all_goals (go_ret; exact ⟨by simp_all, rfl⟩)

end Go.Proofs.Ytfeencjpdfnkhaa.S1
