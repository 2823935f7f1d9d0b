/- strings.Builder's String over abstract values: what is read is the bytes; the builder is gone. -/
import Derived.Test.YtkdpehhdbjkljaaDoorBld
import Derived.Test.YtkdpehhdbjkljaaDoorBldW
namespace Go.Proofs.YtkdpehhdbjkljaaDoor
open Go.RowKit

/-- An object less. -/
def delM (M : Nat → Option (List AV)) (id : Nat) : Nat → Option (List AV) := fun i => if i = id then none else M i
theorem delM_ne {M : Nat → Option (List AV)} {id i : Nat} (h : i ≠ id) : delM M id i = M i := by simp [delM, h]
theorem delM_set {M : Nat → Option (List AV)} {id : Nat} {cs : List AV} (h : M id = none) : delM (setM M id cs) id = M := by
  funext i; simp only [delM, setM]
  by_cases e : i = id
  · subst e; simp [h]
  · simp [e]
theorem delM_swap {M N : Nat → Option (List AV)} {id id2 : Nat} {b : List AV} (h : id ≠ id2) (e : delM M id = N) : delM (setM M id2 b) id = setM N id2 b := by
  subst e
  funext i; simp only [delM, setM]
  by_cases e1 : i = id
  · subst e1; simp [h]
  · simp [e1]

/-- Nobody owns what the object owned. -/
def Gh.forget (G : Gh) (id : Nat) : Gh := { G with owner := fun b => match G.owner b with | some (.mb i) => if i = id then none else some (.mb i) | some (.mc i j) => if i = id then none else some (.mc i j) | q => q }
theorem forget_own {G : Gh} {id b : Nat} {q : Pos} (h : G.owner b = some q) (h1 : q ≠ .mb id) (h2 : ∀ j, q ≠ .mc id j) : (G.forget id).owner b = some q := by
  show (match G.owner b with | some (.mb i) => if i = id then none else some (Pos.mb i) | some (.mc i j) => if i = id then none else some (.mc i j) | q => q) = some q
  rw [h]
  cases q with
  | mb i => simp only; rw [if_neg (fun e => h1 (by rw [e]))]
  | mc i j => simp only; rw [if_neg (fun e => h2 j (by rw [e]))]
  | _ => rfl
theorem forget_none {G : Gh} {id b : Nat} (h : G.owner b = none) : (G.forget id).owner b = none := by
  show (match G.owner b with | some (.mb i) => if i = id then none else some (Pos.mb i) | some (.mc i j) => if i = id then none else some (.mc i j) | q => q) = none
  rw [h]

theorem String_any (id : Nat) (hid : id % 10000 = 54) (l : List UInt8) (hl : l.length ≤ 140737488355328) (p : AV) (M M' : Nat → Option (List AV)) (hM : M id = some [p, bufAV l]) (hM' : delM M id = M') :
    ACall Tryd.prog 36 [.gptr id 0] M (fun r M1 => r = .str l ∧ M1 = M') := by
  subst hM'
  intro G w vs hm hfx hlen hrel
  obtain ⟨v, rfl, hv⟩ := arg1 hlen hrel
  cases hv with
  | gptr _ _ b hb =>
  obtain ⟨b', hb', hH, arr0, hty⟩ := hm.obj id _ hM
  rw [hb] at hb'
  cases hb'
  obtain ⟨arr, T, hh, hsz, ho1, ht1, hsc, hrr⟩ := hH
  rw [hh] at hty
  injection hty with hty
  injection hty with _ hT _
  rw [hid] at hT
  subst hT
  obtain ⟨pv, sv, rfl⟩ : ∃ pv sv, arr = #[pv, sv] := by
    obtain ⟨la⟩ := arr
    match la, hsz with
    | [x, y], _ => exact ⟨x, y, rfl⟩
  have hs1 := hrr 1 (bufAV l) sv rfl rfl
  -- what is to be shown of whatever world behind that keeps all but the row
  have key : ∀ (w' : World) (g : Nat), (∀ a, w'.cell? a = w.cell? a) → w'.heap.size = w.heap.size → w'.os = w.os → w'.tape = w.tape → w'.output = w.output → (∀ b, (G.owner b = none ∨ ∃ q, G.owner b = some q ∧ q ≠ .mb id ∧ ∀ j, q ≠ .mc id j) → w'.heap[b]? = w.heap[b]?) →
      ∃ r M1 G' u, Ending.returned (.string ⟨l.toArray⟩) = .returned u ∧ (r = .str l ∧ M1 = delM M id) ∧ r.isL = false ∧ RelS Tryd.prog G' w' .res r u ∧ RelM Tryd.prog G' w' M1 ∧ Keep G w G' w' := by
    intro w' g hcell hz hos htp hout hoth
    have st : Stab G w (G.forget id) w' := ⟨fun _ => Nat.le_refl _, fun b o _ => hcell _, fun _ _ h => h⟩
    refine ⟨_, _, G.forget id, _, rfl, ⟨rfl, rfl⟩, rfl, RelV.str _, ⟨fun i cs hi => ?_, fun b hb => ?_, hm.fin⟩, ⟨hos, htp, hout, by omega, fun b hb hn => ⟨forget_none hn, hoth b (.inl hn), rfl⟩, st⟩⟩
    · by_cases e : i = id
      · subst e; simp [delM] at hi
      · rw [delM_ne e] at hi
        obtain ⟨b2, hb2, hh2, arr2, hx2⟩ := hm.obj i cs hi
        have n1 : (Pos.mb i) ≠ .mb id := fun h => e (by injection h)
        have hk := hoth b2 (.inr ⟨_, hh2.own, n1, fun j h => by cases h⟩)
        refine ⟨b2, hb2, hh2.move st (by omega) hk ((forget_own hh2.own n1 (fun j h => by cases h)).trans hh2.own.symm) rfl (fun c b h1 h2 => ?_), arr2, hk.trans hx2⟩
        have n2 : ∀ j, (Pos.mc i c) ≠ .mc id j := fun j h => e (by injection h)
        exact ⟨forget_own h2 (fun h => by cases h) n2, hoth b (.inr ⟨_, h2, (fun h => by cases h), n2⟩), rfl⟩
    · exact ⟨(hm.far b (by omega)).1, forget_none (hm.far b (by omega)).2⟩
  have hd : ∀ B : Nat, Below B w w.drew := fun B => Below.drew (Below.refl B w)
  by_cases h0 : l = []
  · subst h0
    have hs : sv = .slice none 0 0 := relO_lit hs1
    subst hs
    refine (String_nil b pv w hh).mono ?_
    rintro e w' ⟨rfl, rfl⟩
    exact key w.drew 0 (fun _ => rfl) rfl rfl (hd 0).tape rfl (fun _ _ => rfl)
  · rw [bufAV_ne h0] at hs1
    rcases hs1 with ⟨size, us, hsE, hle, hsc2, hown, hr, hbk⟩ | ⟨he, _⟩
    · obtain ⟨hul, hown2⟩ := hown
      have hsize : size = 1 := by
        have := (sizeOf_5 : SizeOf _ _ _)
        unfold SizeOf at hsE this
        rw [hsE] at this
        simpa using this
      subst hsize
      rw [byteAVs_len] at hul hown2
      have hl0 : l.length ≠ 0 := by simpa using h0
      rcases hown2 with ⟨_, hz⟩ | ⟨g, cap, cur, rfl, _, hg, hcap, hcm, hcs, htk⟩
      · exact absurd hz hl0
      · obtain ⟨hb1, hb2, hb3⟩ := hbk g rfl
        have hcell : ∀ j x, l[j]? = some x → w.cell? ⟨g, j, none⟩ = some (.int .u8 x.toNat) := by
          intro j x hx
          have hjl := (List.getElem?_eq_some_iff.1 hx).1
          have hav : ((byteAVs l).flatMap AV.cells)[j]? = some (.lit (.int .u8 x.toNat)) := by rw [byteAVs_flat, byteAVs_get, hx]; rfl
          have hju : j < us.length := by omega
          have e1 := relV_lit (hr j _ us[j] hav (List.getElem?_eq_getElem hju))
          have e2 : cur.toList[j]? = some us[j] := by
            have : (cur.toList.take (l.length * 1))[j]? = some us[j] := by rw [htk]; exact List.getElem?_eq_getElem hju
            rwa [List.getElem?_take_of_lt (by omega)] at this
          rw [Lib.cell_of_heap hg, ← e1]
          simpa using e2
        refine (String_row b g cap pv cur l w hh hg h0 (by omega) (by omega) (by omega) hcell).mono ?_
        rintro e w' ⟨rfl, rfl⟩
        refine key _ g (fun a => by rw [cell_freeze]; rfl) (by rw [size_freeze]; rfl) ?_ ?_ ?_ (fun b hb => ?_)
        · unfold World.freeze; split <;> rfl
        · unfold World.freeze; split <;> exact (hd 0).tape
        · unfold World.freeze; split <;> rfl
        · rw [heap_freeze (fun e => ?_)]
          · rfl
          · subst e
            rcases hb with hb | ⟨q, hq, _, h2⟩
            · rw [hb2] at hb; cases hb
            · rw [hb2] at hq; cases hq; exact h2 1 rfl
    · exact absurd (by simpa [byteAVs] using he) h0
end Go.Proofs.YtkdpehhdbjkljaaDoor
