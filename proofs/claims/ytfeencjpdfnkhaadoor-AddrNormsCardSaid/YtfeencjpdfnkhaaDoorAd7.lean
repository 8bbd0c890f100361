/- AddrLooks: the walk. -/
import Derived.Test.YtfeencjpdfnkhaaDoorAd4
namespace Go.Proofs.YtfeencjpdfnkhaaDoor.Ad7
open Go Go.RowKit Go.Proofs.YtfeencjpdfnkhaaDoor.Ad0 Go.Proofs.YtfeencjpdfnkhaaDoor.Ad1 Go.Proofs.YtfeencjpdfnkhaaDoor.Ad2 Go.Proofs.YtfeencjpdfnkhaaDoor.Ad3 Go.Proofs.YtfeencjpdfnkhaaDoor.Ad5 Go.Proofs.YtfeencjpdfnkhaaDoor.Ad4
set_option linter.unusedVariables false
set_option linter.unusedSimpArgs false

theorem keep2d {B : Nat} {w : World} {g k : Nat} {c0 c1 d0 d1 : Value} {W w1 : World} (hb : Below W.heap.size W w1)
    (h : W.cell? ⟨g, 0, none⟩ = some c0 ∧ W.cell? ⟨g, 1, none⟩ = some c1 ∧ W.cell? ⟨k, 0, none⟩ = some d0 ∧ W.cell? ⟨k, 1, none⟩ = some d1 ∧ B ≤ W.heap.size ∧ Below B w W) :
    w1.cell? ⟨g, 0, none⟩ = some c0 ∧ w1.cell? ⟨g, 1, none⟩ = some c1 ∧ w1.cell? ⟨k, 0, none⟩ = some d0 ∧ w1.cell? ⟨k, 1, none⟩ = some d1 ∧ B ≤ w1.heap.size ∧ Below B w w1 := keep2 hb h

set_option maxRecDepth 100000 in
set_option maxHeartbeats 4000000 in
theorem looks_walk (p q : Pfx) (hp : p.ok) (hq : q.ok) (a : Nat) (ha : a < 4294967296) (n : Int) (w : World) :
    Calls Tryd.prog 6 #[.agg #[.int .u32 p.addr, .int .i64 p.len], .agg #[.int .u32 q.addr, .int .i64 q.len], .int .u32 a, .int .i64 n] w fun e w' => e = .returned (.bool true) ∧ Below w.heap.size w w' := by
  have heq : ∀ W, (binOp .eql 24 (.agg #[.int .u32 (normF p).addr, .int .i64 (normF p).len]) (.agg #[.int .u32 (normF p).addr, .int .i64 (normF p).len])).run Tryd.prog W = .ok (.bool true) W := fun W => by rw [eql_pfx (normF p) (normF p)]; simp
  have hz : w.heap.size < w.heap.size + 1 + 1 := by omega
  go_enter Tryd.func6, Tryd.ntmps6
  go_wp2
  go_region_held3 (fun w' => w'.cell? ⟨w.heap.size, 0, none⟩ = some (.int .u32 p.addr) ∧ w'.cell? ⟨w.heap.size, 1, none⟩ = some (.int .i64 p.len) ∧ w'.cell? ⟨w.heap.size + 1, 0, none⟩ = some (.int .u32 q.addr) ∧ w'.cell? ⟨w.heap.size + 1, 1, none⟩ = some (.int .i64 q.len) ∧ w.heap.size ≤ w'.heap.size ∧ Below w.heap.size w w')
    (first | exact begin2 (by simp) (by simp) (by simp) (by simp) (by simp; omega) (bnew2 _ _ _) | exact keep2 (by assumption) (by assumption) | go_keep)
    (first
      | (go_at_call 14; (with_reducible refine (mask_any n _).mono ?_); rintro e v1 ⟨rfl, rfl⟩)
      | (go_at_call 12; (with_reducible refine (norm_any p hp _).mono ?_); rintro e v1 ⟨rfl, hb1⟩)
      | (go_at_call 13; (with_reducible refine (is_any p hp _).mono ?_); rintro e v1 ⟨rfl, hb1⟩)
      | (go_at_call 9; (with_reducible refine (has_any p a hp ha _).mono ?_); rintro e v1 ⟨rfl, hb1⟩)
      | (go_at_call 10; (with_reducible refine (covers_any p q hp hq _).mono ?_); rintro e v1 ⟨rfl, hb1⟩)
      | (go_at_call 19; (with_reducible refine (cast_any a ha _).mono ?_); rintro e v1 ⟨rfl, rfl⟩)
      | (go_at_call 8; (with_reducible refine (wide_any p hp _).mono ?_); rintro e v1 ⟨rfl, hb1⟩)
      | (go_at_call 15; (with_reducible refine (rmask_any n _).mono ?_); rintro e v1 ⟨rfl, rfl⟩)
      | (go_at_call 7; (with_reducible refine (rnorm_any p hp _).mono ?_); rintro e v1 ⟨rfl, hb1⟩)
      | (go_at_call 16; (with_reducible refine (ris_any p hp _).mono ?_); rintro e v1 ⟨rfl, hb1⟩)
      | (go_at_call 17; (with_reducible refine (rhas_any p a hp ha _).mono ?_); rintro e v1 ⟨rfl, hb1⟩)
      | (go_at_call 18; (with_reducible refine (rcovers_any p q hp hq _).mono ?_); rintro e v1 ⟨rfl, hb1⟩)
      | (go_at_call 20; (with_reducible refine (rcast_any a ha _).mono ?_); rintro e v1 ⟨rfl, rfl⟩)
      | (go_at_call 21; (with_reducible refine (rwide_any p hp _).mono ?_); rintro e v1 ⟨rfl, hb1⟩)
      | (go_at_call 11; (with_reducible refine (known_any _).mono ?_); rintro e v1 ⟨rfl, hb1⟩))
  go_wp2
  go_ret
  rename_i hh
  exact ⟨rfl, hh.2.2.2.2.2⟩
end Go.Proofs.YtfeencjpdfnkhaaDoor.Ad7
