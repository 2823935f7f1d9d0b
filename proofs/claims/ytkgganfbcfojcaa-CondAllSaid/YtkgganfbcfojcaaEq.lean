/- Equality of arrays, element by element. -/
import Derived.Test.YtkgganfbcfojcaaOwn
namespace Go.Proofs.Ytkgganfbcfojcaa
open Go.RowKit

/-- The elements at the indices that are listed, one behind the other. -/
def eqElems (d : Nat) (e : TypeId) (sz : Nat) (xs ys : Array Value) : List Nat → Sem Bool
  | [] => pure true
  | i :: r => part e xs (i * sz) >>= fun a => part e ys (i * sz) >>= fun b => Op.equalIn d e a b >>= fun q => if !q then pure false else eqElems d e sz xs ys r

theorem run_equalIn_array {P : Program} (w : World) (d : Nat) (t e : TypeId) (len sz : Nat) (xs ys : Array Value) (ht : P.underlying t = some (.array len e)) (hs : ∀ w, (sizeOf e).run P w = .ok sz w) :
    (Op.equalIn (d + 1) t (.agg xs) (.agg ys)).run P w = (eqElems d e sz xs ys (List.range len)).run P w := by
  simp only [Op.equalIn, Sem.run_bind, run_underlying ht, Result.andThen_ok, hs]
  rw [Std.Legacy.Range.forIn_eq_forIn_range']
  have hr : List.range' 0 ((len - 0 + 1 - 1) / 1) 1 = List.range len := by rw [List.range_eq_range']; simp
  simp only [Std.Legacy.Range.size] at *
  rw [hr]
  generalize List.range len = l
  induction l generalizing w with
  | nil => simp [eqElems]
  | cons i r ih =>
    simp only [List.forIn_cons, eqElems, Sem.run_bind]
    cases h1 : (part e xs (i * sz)).run P w with
    | halt x w1 => simp [Result.andThen]
    | ok a w1 =>
      simp only [Result.andThen_ok]
      cases h2 : (part e ys (i * sz)).run P w1 with
      | halt x w2 => simp [Result.andThen]
      | ok b w2 =>
        simp only [Result.andThen_ok]
        cases h3 : (Op.equalIn d e a b).run P w2 with
        | halt x w3 => simp [Result.andThen]
        | ok q w3 =>
          simp only [Result.andThen_ok]
          cases q
          · simp
          · simpa using ih w3

theorem eqElems_nil {P : Program} (w : World) (d : Nat) (e : TypeId) (sz : Nat) (xs ys : Array Value) : (eqElems d e sz xs ys []).run P w = .ok true w := rfl
theorem eqElems_cons {P : Program} (w : World) (d : Nat) (e : TypeId) (sz : Nat) (xs ys : Array Value) (i : Nat) (r : List Nat) (a b : Value) (q : Bool)
    (h1 : (part e xs (i * sz)).run P w = .ok a w) (h2 : (part e ys (i * sz)).run P w = .ok b w) (h3 : (Op.equalIn d e a b).run P w = .ok q w) :
    (eqElems d e sz xs ys (i :: r)).run P w = if q then (eqElems d e sz xs ys r).run P w else .ok false w := by
  simp only [eqElems, Sem.run_bind, h1, h2, h3, Result.andThen_ok]
  cases q <;> simp
end Go.Proofs.Ytkgganfbcfojcaa
