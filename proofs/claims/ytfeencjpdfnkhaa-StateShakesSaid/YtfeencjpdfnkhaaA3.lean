/- StateBegins: the walk for flags that fit in six bits. -/
import Derived.Test.YtfeencjpdfnkhaaS3
import Derived.Deep.WholeRow
namespace Go.Proofs.Ytfeencjpdfnkhaa.A3
open Go.RowKit Go.Proofs.Ytfeencjpdfnkhaa.S1 Go.Proofs.Ytfeencjpdfnkhaa.S2 Go.Proofs.Ytfeencjpdfnkhaa.S3

def ipCells : Array Value := #[.int .i64 0, .int .i64 0, .bool false, .bool false, .int .i64 0, .int .i64 0, .int .i64 6, .int .u32 0, .int .u32 0, .slice none 0 0, .slice none 0 0]
def pkCells (f : Int) : Array Value := #[.int .i64 0, .int .i64 0, .bool false, .bool false, .int .i64 0, .int .i64 0, .int .i64 6, .int .u32 0, .int .u32 0, .slice none 0 0, .slice none 0 0,
  .int .i64 0, .int .i64 0, .int .i64 0, .int .i64 f, .int .i64 0, .int .i64 0, .pointer none]
theorem ip_built : Try.prog.built 33 [(6, .int .i64 6)] = some ipCells := by kernel_rfl
theorem pk_built (f : Int) : Try.prog.built 36 [(0, .agg ipCells), (4, .int .i64 f)] = some (pkCells f) := by kernel_rfl
theorem pk_is (f : Int) : Pk (pkCells f) 6 0 f 0 := ⟨rfl, rfl, rfl, rfl⟩
theorem pk_size (f : Int) : (Try.prog.info? 36).map (·.size) = some (pkCells f).size := by kernel_rfl
theorem pk_size2 (f : Int) (x : Value) : (Try.prog.info? 36).map (·.size) = some ((pkCells f).setIfInBounds 11 x).size := by rw [Array.size_setIfInBounds]; exact pk_size f
theorem pk_18 (f : Int) : (pkCells f).size = 18 := rfl
theorem pk_one (f : Int) : (pkCells f).all (·.oneCell') = true := by kernel_rfl
attribute [irreducible] ipCells pkCells
/-- 'T{..}' under a name of its own. -/
theorem wpList_build' {P : Program} {ops : Array Oper} {rest : List Oper} {o : Oper} {a : Act} {w : World} {Q : Exit → Act → World → Prop} (hg : o.guard = none) (t : TypeId) (parts : Array (Nat × Operand)) (ho : o.op = .build t parts)
    (cs : Array Value) (hf : P.built t (parts.map fun (i, x) => (i, a.eval x)).toList = some cs)
    (h : wpList P ops Q rest (a.put o.dst (.agg cs)) w) : wpList P ops Q (o :: rest) a w :=
  wpList_build hg t parts ho (by rw [hf]; rfl) (by rw [hf]; exact h)

theorem pk_later (f : Int) : Pk ((pkCells f).setIfInBounds 11 (.int .i64 2)) 6 2 f 0 := by
  have h := pk_is f
  obtain ⟨h6, h11, h14, h15⟩ := h
  have h18 : 11 < (pkCells f).size := (Array.getElem?_eq_some_iff.1 h11).1
  exact ⟨by simp [h6], by simp [h18], by simp [h14], by simp [h15]⟩

set_option maxHeartbeats 1000000 in
theorem begins_in (f : Int) (w : World) (h0 : ¬ f < 0) (h1 : ¬ 63 < f) (x y : Bool) (hx : (bits .and .i64 f 2 != 0) = x) (hy : (bits .and .i64 f 21 == 0) = y) :
    Calls Try.prog 7 #[.int .i64 f] w fun e w' => e = .returned (.bool true) ∧ Below w.heap.size w w' := by
  have hF := flags_all f (by omega) (by omega)
  rw [hx, hy] at hF
  generalize hbb : beginF 0 6 f 0 = bb at hF
  obtain ⟨b1, b2⟩ := bb
  obtain ⟨hF1, hF2⟩ := hF
  have HBB := Lib.hid hbb
  have HP := Lib.hid (pk_is f)
  have HL := Lib.hid (pk_later f)
  have h11 := (pk_is f).h11
  clear hbb
  have hlat : beginF 2 6 f 0 = (0, false) := rfl
  dsimp only at hF1 hF2
  cases x <;> cases y
  all_goals
    simp only [Bool.and_true, Bool.and_false, Bool.and_self] at hF1 hF2
    subst hF1
    go_enter Try.func7, Try.ntmps7
    go_upto_region 3 with (fail)
    go_upto_region 4 with (first
      | (refine wpList_build' rfl 33 _ rfl ipCells (by kernel_rfl) ?_)
      | (refine wpList_build' rfl 36 _ rfl (pkCells f) (by kernel_rfl) ?_)
      | (refine wpList_store_row rfl 36 _ _ rfl w.heap.size (pkCells f) rfl rfl 36 _ (heap_new _ _) (pk_size f) (by simp [pk_18]) (pk_one f) ?_; rw [World.setRow_alloc_new]))
    go_wp2_with (refine wpList_load_row rfl 36 _ rfl w.heap.size rfl 36 (pkCells f) (0, 0) _ (heap_new _ _) Try.underlying36 rfl (pk_size f) ?_)
    refine (begin_any _ _ _ _ _ HP.out _).mono ?_
    rintro e w2 ⟨rfl, rfl⟩
    rw [HBB.out]
    go_wp2_with (refine wpList_load_row rfl 36 _ rfl w.heap.size rfl 36 ((pkCells f).setIfInBounds 11 (.int .i64 2)) (0, 0) _ (heap_old (heap_new _ _) _) Try.underlying36 rfl (pk_size2 f _) ?_)
    refine (begin_any _ _ _ _ _ HL.out _).mono ?_
    rintro e w3 ⟨rfl, rfl⟩
    rw [hlat]
    go_wp2_with (first | (go_at_call 9; refine (known_any _).mono ?_; rintro e w' ⟨rfl, rfl⟩))
    go_ret
    exact ⟨rfl, ((bnew _ _).alloc (by simp) _).alloc (by simp; omega) _⟩
end Go.Proofs.Ytfeencjpdfnkhaa.A3
