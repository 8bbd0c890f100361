/- The laws of package state: each walk ends with true, and what was in memory is as it was. -/
import Derived.Test.YtfeencjpdfnkhaaS1
import Derived.Lib.Hide
namespace Go.Proofs.Ytfeencjpdfnkhaa.S2
open Go.RowKit Go.Proofs.Ytfeencjpdfnkhaa.S1

theorem info36 : (Try.prog.info? 36).map (·.size) = some 18 := by kernel_rfl

theorem heap_new (w : World) (o : Obj) : (w.alloc o).heap[w.heap.size]? = some o := by
  show (w.heap.push o)[w.heap.size]? = some o
  simp
theorem heap_old {w : World} {k : Nat} {x : Obj} (h : w.heap[k]? = some x) (o : Obj) : (w.alloc o).heap[k]? = some x := by
  have hk : k < w.heap.size := (Array.getElem?_eq_some_iff.1 h).1
  rw [Below.heap_alloc w o k hk]; exact h

set_option maxHeartbeats 1000000 in
theorem tells_walk (cs : Array Value) (hcs : cs.size = 18) (A B : Option Addr) (n m a b : Nat) (h9 : cs[9]? = some (.slice A n a)) (h10 : cs[10]? = some (.slice B m b)) (proto cls flags type : Int) (h : Pk cs proto cls flags type) (s : Int) (back : Bool) (fl : Int) (w : World) :
    Calls Try.prog 6 #[.agg cs, .int .i64 s, .bool back, .int .i64 fl] w
      fun e w' => e = .returned (.bool true) ∧ Below w.heap.size w w' := by
  have HCS : Hid ((Try.prog.info? 36).map (·.size) = some cs.size) := by rw [hcs]; exact info36
  have H9 := Lib.hid h9
  have H10 := Lib.hid h10
  clear hcs h9 h10
  go_enter Try.func6, Try.ntmps6
  go_wp2_with (refine wpList_load_row rfl 36 _ rfl w.heap.size rfl 36 cs (0, 0) _ (heap_new _ _) Try.underlying36 rfl HCS.out ?_)
  refine (long_any cs A B n m a b H9.out H10.out _).mono ?_
  rintro e w1 ⟨rfl, rfl⟩
  by_cases hL : (decide ((60 : Int) < n) || decide ((1500 : Int) < m)) = true
  · go_wp2
    go_ret
    exact ⟨rfl, (bnew _ _).alloc (by simp) _⟩
  · simp only [Bool.not_eq_true] at hL
    go_wp2_with (refine wpList_load_row rfl 36 _ rfl w.heap.size rfl 36 cs (0, 0) _ (heap_old (heap_new _ _) _) Try.underlying36 rfl HCS.out ?_)
    refine (begin_any _ _ _ _ _ h _).mono ?_
    rintro e w2 ⟨rfl, rfl⟩
    go_wp2_with (refine wpList_load_row rfl 36 _ rfl w.heap.size rfl 36 cs (0, 0) _ (heap_old (heap_old (heap_new _ _) _) _) Try.underlying36 rfl HCS.out ?_)
    refine (rbegin_any _ _ _ _ _ h _).mono ?_
    rintro e w3 ⟨rfl, rfl⟩
    generalize beginF cls proto flags type = bb
    go_wp2_with (first | (go_at_call 8; refine (step_any _ _ _ _).mono ?_; rintro e w' ⟨rfl, rfl⟩) | (go_at_call 14; refine (rstep_any _ _ _ _).mono ?_; rintro e w' ⟨rfl, rfl⟩)| (go_at_call 10; refine (ticks_any _ _).mono ?_; rintro e w' ⟨rfl, rfl⟩)| (go_at_call 15; refine (rticks_any _ _).mono ?_; rintro e w' ⟨rfl, rfl⟩) | (go_at_call 9; refine (known_any _).mono ?_; rintro e w' ⟨rfl, rfl⟩))
    go_ret
    exact ⟨rfl, (((bnew _ _).alloc (by simp) _).alloc (by simp; omega) _).alloc (by simp; omega) _⟩
end Go.Proofs.Ytfeencjpdfnkhaa.S2
