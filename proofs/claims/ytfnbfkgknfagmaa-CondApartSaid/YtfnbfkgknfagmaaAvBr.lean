/- Abstract values: branches, guards, joins. -/
import Derived.Test.YtfnbfkgknfagmaaAvOp3
namespace Go.Proofs.Ytfnbfkgknfagmaa
open Go.RowKit

section
variable {P : Program} {n : Nat} {s : St} {ops : Array Oper} {l : List Oper} {Q : St → Prop} {QE : Exit → St → Prop} {t : Nat} {b : Bool}

theorem RelSt.over {G : Gh} {a : Act} {w : World} (hr : RelSt P G n s a w) {v v' : AV} (h : s.get t = v) (hv : v' = v) : RelSt P G n (s.put t v') a w := by
  subst hv; subst h
  refine ⟨hr.size, hr.defers, fun i => ?_, hr.loc, hr.mem⟩
  show RelS P G w (.slot i) (look .any ((t, s.get t) :: s.fr) i) _
  simp only [look]
  split
  · rename_i e; subst e; exact hr.slot t
  · exact hr.slot i

/-- A bool that is not known: both ways. -/
theorem AOps.split (hs : s.get t = .lit (.bool b)) (hT : b = true → AOps P n ops l (s.put t (.lit (.bool true))) Q) (hF : b = false → AOps P n ops l (s.put t (.lit (.bool false))) Q) : AOps P n ops l s Q := by
  intro G a w K hr hfx hK
  cases b with
  | true => exact hT rfl G a w K (hr.over hs rfl) hfx hK
  | false => exact hF rfl G a w K (hr.over hs rfl) hfx hK

/-- What is left of a state: slot d is the bool z. -/
def Fin (ls ks : List Nat) (S : Bool → St) (z : Bool) (s : St) : Prop := s.keep ls ks = S z

theorem AOps.splitJ {ls ks : List Nat} {S : Bool → St} {x y : Bool} (hs : s.get t = .lit (.bool b)) (hT : b = true → AOps P n ops l (s.put t (.lit (.bool true))) (Fin ls ks S x))
    (hF : b = false → AOps P n ops l (s.put t (.lit (.bool false))) (Fin ls ks S y)) : AOps P n ops l s (Fin ls ks S (bif b then x else y)) := by
  refine AOps.split hs (fun h => ?_) (fun h => ?_)
  · subst h; exact hT rfl
  · subst h; exact hF rfl

theorem AOps.mono {Q' : St → Prop} (h : AOps P n ops l s Q) (hq : ∀ s, Q s → Q' s) : AOps P n ops l s Q' :=
  fun G a w K hr hfx hK => h G a w K hr hfx fun s' G' a' w' q => hK s' G' a' w' (hq s' q)

/-- Fewer slots are spoken of behind a list of operations. -/
theorem AWp.regionJ {id : Nat} {c : Code} (ls ks : List Nat) (S : Bool → St) {z : Bool} (h : AOps P n ops ops.toList s (Fin ls ks S z)) (k : AWp P n c (S z) QE) : AWp P n (.seq (.region id ops false) c) s QE := by
  refine AWp.seq (AWp.region (fun G a w K hr hfx hK => h G a w K hr hfx fun s' G' a' w' hq hr' hk => ?_))
  refine hK (S z) G' a' w' k ?_ hk
  have := hr'.keep ls ks
  rw [show s'.keep ls ks = S z from hq] at this
  exact this

theorem AWp.cond {c : Operand} {x y : Code} (hc : s.eval c = .lit (.bool b)) (hT : b = true → AWp P n x s QE) (hF : b = false → AWp P n y s QE) : AWp P n (.cond c x y) s QE := by
  intro G a w K hr hfx hK
  have := hr.evLit hc
  cases b with
  | true => exact wp_cond_true this (hT rfl G a w K hr hfx hK)
  | false => exact wp_cond_false this (hF rfl G a w K hr hfx hK)

/-- What follows is told of a state that is less. -/
theorem AWp.weakTo {c : Code} {ls ks : List Nat} {s' : St} (h : s.keep ls ks = s') (k : AWp P n c s' QE) : AWp P n c s QE := AWp.weak ls ks (by rw [h]; exact k)

theorem AOps.nil' {s' : St} (h : Q s) : AOps P n ops [] s Q := AOps.nil h

/-- A nil list in a slot, as a list of whatever kind. -/
theorem AOps.nilList {o : Oper} {rest : List Oper} {d : Nat} (E : TypeId) (hg : Wants ops s o) (hd : o.dst = some d) (hn : d < n) (ho : o.op = .assign (.const (.slice none 0 0)) ∨ o.op = .move (.const (.slice none 0 0)))
    (k : AOps P n ops rest (s.put d (.list true E [])) Q) : AOps P n ops (o :: rest) s Q := by
  refine AOps.read hg hd hn (v := .list true E []) (fun G a w hr => ⟨.slice none 0 0, (Or.inr ⟨rfl, Or.inl rfl⟩ : RelO P G w (.slot d 0) (.list true E []) (.slice none 0 0)), fun w' _ => ?_⟩) k
  rcases ho with ho | ho <;> simp [execOp, ho, Act.eval]
end
end Go.Proofs.Ytfnbfkgknfagmaa
