/- Abstract values: where ways meet again: what is told there of the state, once for all that comes behind. -/
import Derived.Test.YtlpihekflkjkfaaDoorAvAny2
namespace Go.Proofs.YtlpihekflkjkfaaDoor
open Go.RowKit
section
variable {P : Program} {n : Nat} {s : St} {QE : Exit → St → Prop}
theorem AWp.mid {x y : Code} (ls ks : List Nat) (I : St → Prop) (h : AWp P n x s fun e s' => match e with | .normal => I (s'.keep ls ks) | e => QE e s') (k : ∀ s', I s' → AWp P n y s' QE) : AWp P n (.seq x y) s QE := by
  refine AWp.seq ?_
  intro G a w K hr hfx hK
  refine h G a w K hr hfx ?_
  intro e s' G' a' w' hq hr' hk
  cases e with
  | normal => exact hK .normal (s'.keep ls ks) G' a' w' (k _ hq) (hr'.keep ls ks) hk
  | _ => exact hK _ s' G' a' w' hq hr' hk
end
theorem fold_eq {k : IntKind} {i j : Int} {b : Bool} (h : (i == j) = b) : intBin .eql k i j = some (.bool b) := by rw [← h]; rfl
end Go.Proofs.YtlpihekflkjkfaaDoor
