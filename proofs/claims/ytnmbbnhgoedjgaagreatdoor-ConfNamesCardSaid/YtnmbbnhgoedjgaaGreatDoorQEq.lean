/- '==' of structs whose fields are numbers, bools, strings and such structs: one Bool, field by field; over any program. -/
import Derived.Laws.StructEq
import Derived.WalkKit
namespace Go.Proofs.YtnmbbnhgoedjgaaGreatDoor.Eq
open Go
section
variable {P : Program}
theorem part_plain {t : TypeId} {d : TypeDesc} (cs : Array Value) (o : Nat) (v : Value) (hu : P.underlying t = some d) (hd : (match d with | .struct _ | .array _ _ => true | _ => false) = false) (hc : cs[o]? = some v) (W : World) : (part t cs o).run P W = .ok v W := by
  have h1 : (isAgg t).run P W = .ok false W := by unfold isAgg; rw [Sem.run_bind, run_underlying hu W]; cases d <;> simp_all
  unfold part
  rw [Sem.run_bind, h1]
  simp [hc]
theorem part_row {t : TypeId} {d : TypeDesc} (cs : Array Value) (o n : Nat) (hu : P.underlying t = some d) (hd : (match d with | .struct _ | .array _ _ => true | _ => false) = true) (hi : (P.info? t).map (·.size) = some n) (W : World) : (part t cs o).run P W = .ok (.agg (cs.extract o (o + n))) W := by
  have h1 : (isAgg t).run P W = .ok true W := by unfold isAgg; rw [Sem.run_bind, run_underlying hu W]; cases d <;> simp_all
  unfold part
  rw [Sem.run_bind, h1]
  cases hq : P.info? t with
  | none => simp [hq] at hi
  | some i =>
    have : i.size = n := by simpa [hq] using hi
    simp [sizeOf, typeInfo, hq, this]
/-- The last field. -/
theorem eqf_nil {d : Nat} {xs ys : Array Value} {w : World} : (Op.eqFields d xs ys []).run P w = .ok true w := by simp [Op.eqFields]
/-- A field ahead of others. -/
theorem eqf_cons {d : Nat} {xs ys : Array Value} {f : Field} {fs : List Field} {a b : Value} {r s : Bool} {w : World} (hn : (f.name == "_") = false) (ha : (part f.type xs f.offset).run P w = .ok a w) (hb : (part f.type ys f.offset).run P w = .ok b w)
    (he : (Op.equalIn d f.type a b).run P w = .ok r w) (hr : (Op.eqFields d xs ys fs).run P w = .ok s w) : (Op.eqFields d xs ys (f :: fs)).run P w = .ok (r && s) w := by
  have hn' : f.name ≠ "_" := by simpa using hn
  rw [Op.eqFields]
  simp only [if_pos hn', Sem.run_bind, ha, hb, he, Result.andThen_ok]
  cases r
  · simp
  · simpa using hr
theorem eq_struct {d : Nat} {xs ys : Array Value} {r : Bool} {w : World} {t : TypeId} {fs : Array Field} (hu : P.underlying t = some (.struct fs)) (hp : P.stoodInHeld t = false) (h : (Op.eqFields d xs ys fs.toList).run P w = .ok r w) : (Op.equalIn (d + 1) t (.agg xs) (.agg ys)).run P w = .ok r w := by
  have hf : P.fieldsOf t = fs := by simp [Program.fieldsOf, hu]
  rw [run_equalIn_struct (P := P) w d t xs ys (by rw [hf]; exact hu) hp, hf]
  exact h
theorem eql_struct {xs ys : Array Value} {r : Bool} {w : World} {t : TypeId} (h : (Op.equalIn 10000 t (.agg xs) (.agg ys)).run P w = .ok r w) : (binOp .eql t (.agg xs) (.agg ys)).run P w = .ok (.bool r) w := by
  rw [run_eql_struct, h]; rfl
theorem neq_struct {xs ys : Array Value} {r : Bool} {w : World} {t : TypeId} (h : (Op.equalIn 10000 t (.agg xs) (.agg ys)).run P w = .ok r w) : (binOp .neq t (.agg xs) (.agg ys)).run P w = .ok (.bool (!r)) w := by
  rw [run_neq_struct, h]; rfl
end
end Go.Proofs.YtnmbbnhgoedjgaaGreatDoor.Eq

