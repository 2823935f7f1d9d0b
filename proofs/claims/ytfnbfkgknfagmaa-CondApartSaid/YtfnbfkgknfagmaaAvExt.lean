/- Abstract values: contracts of the library's, told of memory, as contracts on abstract values. -/
import Derived.Test.YtfnbfkgknfagmaaAvAux
namespace Go.Proofs.Ytfnbfkgknfagmaa
open Go.RowKit

section
variable {P : Program} {f : FuncId} {args : List AV} {M : Nat → Option (List AV)}

theorem below_keep {G : Gh} {w w' : World} (hb : Below w.heap.size w w') (hfar : ∀ b, w.heap.size ≤ b → G.tip b = 0 ∧ G.owner b = none) : Keep G w G w' ∧ Stab G w G w' := by
  have st : Stab G w G w' := by
    refine ⟨fun _ => Nat.le_refl _, fun b oo ho => ?_, fun _ _ h => h⟩
    have hlt : b < w.heap.size := by
      rcases Nat.lt_or_ge b w.heap.size with h | h
      · exact h
      · rw [(hfar b h).1] at ho; omega
    exact World.cell?_of_block (w := w) (a := ⟨b, oo, none⟩) (hb.block b hlt)
  exact ⟨⟨hb.os, hb.tape, hb.output, hb.size, fun b h1 h2 => ⟨h2, hb.block b h1, rfl⟩, st⟩, st⟩

/-- It answers what holds no memory, and leaves all that was there. -/
theorem ACall.ofBelow {r : AV} (hf : r.flat = true)
    (h : ∀ (G : Gh) (w : World) (vs : List Value), RelM P G w M → Fix G w → vs.length = args.length → (∀ (j : Nat) x v, args[j]? = some x → vs[j]? = some v → RelV P G w x v) →
      Calls P f vs.toArray w fun e w' => ∃ u, e = .returned u ∧ RelV P G w r u ∧ Below w.heap.size w w') : ACall P f args M (fun r' M' => r' = r ∧ M = M') := by
  intro G w vs hm hfx hlen hrel
  refine (h G w vs hm hfx hlen hrel).mono ?_
  rintro e w' ⟨u, rfl, hu, hb⟩
  obtain ⟨kp, st⟩ := below_keep (G := G) hb hm.far
  refine ⟨r, M, G, u, rfl, ⟨rfl, rfl⟩, flat_isL hf, (hu.stab st).toS hf, ?_, kp⟩
  exact hm.move st hb.size (fun q b hq h1 h2 => ⟨h2, hb.block b h1, rfl⟩) (fun b hb' => hm.far b (Nat.le_trans hb.size hb')) rfl

/-- It answers a new row, and leaves all that was there. -/
theorem ACall.ofRow {E : TypeId} {xs : List AV} {size : Nat} (hs : SizeOf P E size) (hl : ∀ x ∈ xs, x.cells.length = size) (hsc : ∀ x ∈ xs, ∀ c ∈ x.cells, c.scalar = true) (hmax : xs.length ≤ maxLen)
    (h : ∀ (G : Gh) (w : World) (vs : List Value), RelM P G w M → Fix G w → vs.length = args.length → (∀ (j : Nat) x v, args[j]? = some x → vs[j]? = some v → RelV P G w x v) →
      ∃ cs : List Value, RelL P G w (xs.flatMap AV.cells) cs ∧ Calls P f vs.toArray w fun e w' => ∃ g cap cur, e = .returned (.slice (some ⟨g, 0, none⟩) xs.length cap) ∧ w.heap.size ≤ g ∧ g < w'.heap.size ∧ w'.heap[g]? = some (.cells cur E (0, 0)) ∧ xs.length ≤ cap ∧ cap ≤ maxLen ∧ cur.size = cap * size ∧
        cur.toList.take (xs.length * size) = cs ∧ Below w.heap.size w w') : ACall P f args M (fun r' M' => r' = .list true E xs ∧ M = M') := by
  intro G w vs hm hfx hlen hrel
  obtain ⟨cs, hcs, hcall⟩ := h G w vs hm hfx hlen hrel
  refine hcall.mono ?_
  rintro e w' ⟨g, cap, cur, rfl, hg1, hg2, hh, hcap, hcm, hcz, htake, hb⟩
  have hfar := hm.far
  let G' : Gh := { G with owner := fun b => if b = g then some (.res 0) else G.owner b, tip := fun b => if b = g then xs.length * size else G.tip b }
  have hne : ∀ b, b < w.heap.size → b ≠ g := fun b h => by omega
  have st : Stab G w G' w' := by
    refine ⟨fun b => ?_, fun b oo ho => ?_, fun _ _ h => h⟩
    · show G.tip b ≤ if b = g then _ else G.tip b
      split
      · rename_i e; subst e; rw [(hfar _ hg1).1]; exact Nat.zero_le _
      · exact Nat.le_refl _
    · have hlt : b < w.heap.size := by
        rcases Nat.lt_or_ge b w.heap.size with h | h
        · exact h
        · rw [(hfar b h).1] at ho; omega
      exact World.cell?_of_block (w := w) (a := ⟨b, oo, none⟩) (hb.block b hlt)
  have old : ∀ b, b < w.heap.size → G'.owner b = G.owner b ∧ G'.tip b = G.tip b := fun b hlt => by
    show (if b = g then _ else G.owner b) = _ ∧ (if b = g then _ else G.tip b) = _
    rw [if_neg (hne b hlt), if_neg (hne b hlt)]; exact ⟨rfl, rfl⟩
  refine ⟨.list true E xs, M, G', _, rfl, ⟨rfl, rfl⟩, rfl, ?_, ?_, ⟨hb.os, hb.tape, hb.output, hb.size, fun b h1 h2 => ⟨(old b h1).1.trans h2, hb.block b h1, (old b h1).2⟩, st⟩⟩
  · refine Or.inl ⟨size, cs, hs, hl, hsc, ⟨by rw [hcs.1, flat_len hl], .inr ⟨g, cap, cur, rfl, Nat.zero_le _, hh, hcap, hcm, hcz, htake⟩⟩, fun j c u h1 h2 => (hcs.2 j c u h1 h2).stab st, fun b hb' => ?_⟩
    simp only [Value.ownBlock, Option.some.injEq] at hb'
    subst hb'
    refine ⟨hg2, ?_, ?_⟩
    · show (if g = g then _ else _) = _; simp
    · show (if g = g then _ else _) = _; simp
  · refine hm.move st hb.size (fun q b hq h1 h2 => ⟨(old b h1).1.trans h2, hb.block b h1, (old b h1).2⟩) (fun b hb' => ?_) rfl
    have hb2 := hb.size
    show (if b = g then _ else G.tip b) = 0 ∧ (if b = g then _ else G.owner b) = none
    rw [if_neg (by omega), if_neg (by omega)]
    exact hfar b (by omega)

/-- Arguments that are told outright. -/
theorem arg1 {G : Gh} {w : World} {x : AV} {vs : List Value} (hlen : vs.length = [x].length) (hrel : ∀ (j : Nat) y v, [x][j]? = some y → vs[j]? = some v → RelV P G w y v) : ∃ v, vs = [v] ∧ RelV P G w x v := by
  match vs, hlen with
  | [v], _ => exact ⟨v, rfl, hrel 0 x v rfl rfl⟩
theorem arg2 {G : Gh} {w : World} {x y : AV} {vs : List Value} (hlen : vs.length = [x, y].length) (hrel : ∀ (j : Nat) z v, [x, y][j]? = some z → vs[j]? = some v → RelV P G w z v) : ∃ v u, vs = [v, u] ∧ RelV P G w x v ∧ RelV P G w y u := by
  match vs, hlen with
  | [v, u], _ => exact ⟨v, u, rfl, hrel 0 x v rfl rfl, hrel 1 y u rfl rfl⟩
theorem relV_str {G : Gh} {w : World} {l : List UInt8} {v : Value} (h : RelV P G w (.str l) v) : v = .string ⟨l.toArray⟩ := by cases h; rfl
theorem relV_lit {G : Gh} {w : World} {u v : Value} (h : RelV P G w (.lit u) v) : v = u := by cases h; rfl
theorem strs_rel {G : Gh} {w : World} (ls : List (List UInt8)) : RelL P G w ((ls.map AV.str).flatMap AV.cells) (ls.map fun l => Value.string ⟨l.toArray⟩) := by
  have e : (ls.map AV.str).flatMap AV.cells = ls.map AV.str := by
    induction ls with
    | nil => rfl
    | cons a r ih => simp only [List.map_cons, List.flatMap_cons, ih]; rfl
  rw [e]
  refine ⟨by simp, fun j c u h1 h2 => ?_⟩
  rw [List.getElem?_map] at h1 h2
  cases hj : ls[j]? with
  | none => simp [hj] at h1
  | some l => simp only [hj, Option.map_some, Option.some.injEq] at h1 h2; subst h1; subst h2; exact .str _
end
end Go.Proofs.Ytfnbfkgknfagmaa
