/- Abstract values: regions that draw their order, walked in every order. -/
import Derived.Test.YtfnbfkgknfagmaaAvT
import Derived.Orders
namespace Go.Proofs.Ytfnbfkgknfagmaa
open Go.RowKit

/-- Whatever operation comes next. -/
def AAny (P : Program) (n : Nat) (ops : Array Oper) (Q : St → Prop) : Nat → Array Bool → St → Prop
  | 0, listed, s => Region.ready .any ops listed = [] ∧ Q s
  | k + 1, listed, s => (Region.ready .any ops listed = [] → Q s) ∧ ∀ i ∈ Region.ready .any ops listed, ∃ o, ops[i]? = some o ∧ AOps P n ops [o] s fun s' => AAny P n ops Q k (listed.setIfInBounds i true) s'

section
variable {P : Program} {n : Nat} {s : St} {ops : Array Oper} {Q : St → Prop} {QE : Exit → St → Prop} {k : Nat} {listed : Array Bool}

theorem AAny.done {k : Nat} (hr : Region.ready .any ops listed = []) (h : Q s) : AAny P n ops Q k listed s := by
  cases k with
  | zero => exact ⟨hr, h⟩
  | succ k => exact ⟨fun _ => h, fun i hi => by rw [hr] at hi; cases hi⟩
theorem AAny.step (rs : List Nat) (hr : Region.ready .any ops listed = rs) (h0 : rs ≠ []) (h : ∀ i ∈ rs, ∃ o, ops[i]? = some o ∧ AOps P n ops [o] s fun s' => AAny P n ops Q k (listed.setIfInBounds i true) s') : AAny P n ops Q (k + 1) listed s := by
  subst hr
  exact ⟨fun e => absurd e h0, h⟩

theorem upon_same {o : Oper} {a : Act} {X : Act → World → Prop} {K : Exit → Act → World → Prop} {r : Result Next} (h : o.upon P a X (fun e a w => match e with | .normal => X a w | e => K e a w) r) : o.upon P a X K r := by
  cases r with
  | ok nx w => cases nx <;> exact h
  | halt x w => cases x <;> exact h

theorem AAny.sound : ∀ (k : Nat) (listed : Array Bool) (s : St), AAny P n ops Q k listed s → ∀ (G : Gh) (a : Act) (w : World) (K : Exit → Act → World → Prop), RelSt P G n s a w → Fix G w →
    (∀ s' G' a' w', Q s' → RelSt P G' n s' a' w' → Keep G w G' w' → K .normal a' w') → wpAny P .any ops K k listed a w
  | 0, listed, s, h, G, a, w, K, hr, _, hK => ⟨h.1, hK s G a w h.2 hr (Keep.refl _ _)⟩
  | k + 1, listed, s, h, G, a, w, K, hr, hfx, hK => by
    refine ⟨fun e => hK s G a w (h.1 e) hr (Keep.refl _ _), fun i hi => ?_⟩
    obtain ⟨o, ho, hop⟩ := h.2 i hi
    have := hop G a w (fun e a w => match e with | .normal => wpAny P .any ops K k (listed.setIfInBounds i true) a w | e => K e a w) hr hfx
      (fun s' G' a' w' hq hr' hk' => AAny.sound k _ s' hq G' a' w' K hr' (hfx.keep hk') fun s2 G2 a2 w2 hq2 hr2 hk2 => hK s2 G2 a2 w2 hq2 hr2 (hk'.trans hk2))
    unfold wpOp
    simp only [ho]
    simp only [wpList] at this
    split at this
    · rename_i hw
      rw [if_pos hw]
      rcases this with h1 | h1
      · left; exact upon_same h1
      · right; exact h1
    · rename_i hw
      rw [if_neg hw]; exact this

/-- A region that draws its order, in every order; all orders end in the same state, as far as it is kept. -/
theorem AWp.anyK {id : Nat} {c : Code} (ls ks : List Nat) (S : St) (hm : P.follows .mixedOrders = true) (h : AAny P n ops (fun s' => s'.keep ls ks = S) ops.size (Array.replicate ops.size false) s) (k : AWp P n c S QE) : AWp P n (.seq (.region id ops true) c) s QE := by
  refine AWp.seq ?_
  intro G a w K hr hfx hK
  refine wp_region_any hm ?_
  obtain ⟨hr1, hk1⟩ := hr.later (w' := { w with drawn := w.drawn + 1 }) ⟨rfl, rfl, rfl, Nat.le_refl _, fun _ _ => rfl⟩
  refine AAny.sound _ _ _ h G a _ K hr1 (hfx.keep hk1) fun s' G' a' w' hq hr' hk' => ?_
  refine hK .normal S G' a' w' k ?_ (hk1.trans hk')
  have := hr'.keep ls ks
  rw [hq] at this
  exact this
end
end Go.Proofs.Ytfnbfkgknfagmaa
