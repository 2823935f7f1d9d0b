/- Walks over abstract values, printed by my program av.py. -/
import Derived.Test.YtlpihekflkjkfaaDoorLgP
import Derived.Test.YtlpihekflkjkfaaDoorThS
import Derived.Test.YtlpihekflkjkfaaDoorLgS
import Derived.Test.YtlpihekflkjkfaaDoorAvMid
namespace Go.Proofs.YtlpihekflkjkfaaDoor
open Go.RowKit

theorem nx_0 {p : Nat → Prop} {i : Nat} (h : ∀ m, m < i → p m) (hi : p i) : ∀ m, m < i + 1 → p m := by
  intro m hm
  rcases Nat.lt_or_ge m i with h1 | h1
  · exact h m h1
  · rw [show m = i by omega]; exact hi
theorem conv_dig {n : Nat} (h : n < 10) : IntKind.u8.wrap ((48 + n : Nat) : Int) = (((UInt8.ofNat (48 + n)).toNat : Nat) : Int) := by
  rw [IntWalk.u8_in _ (by omega), UInt8.toNat_ofNat_of_lt' (by show 48 + n < 256; omega)]
theorem digs_one {n : Nat} (h : n < 10) : [UInt8.ofNat (48 + n)] = digs n := (digs_small h).symm
theorem digs_len20 (n : Nat) (h : n ≤ 9223372036854775807) : (digs n).length ≤ 19 := digs_len n 19 (by omega) (by decide)
theorem zz_iff {a b : Int} : ((a == 0) = (b == 0)) ↔ (a = 0 ↔ b = 0) := by rw [Bool.eq_iff_iff, beq_iff_eq, beq_iff_eq]
/-- The signals' words, in order. -/
def sigL : List (List UInt8) := [w0L, w1L, w2L]
theorem strs_at {ws : List (List UInt8)} {i : Nat} (h : i < ws.length) : (ws.map AV.str)[i]? = some (.str (ws.getD i [])) := by
  rw [List.getElem?_map, List.getD_eq_getElem?_getD, List.getElem?_eq_getElem h]; rfl
theorem idx_none {ws : List (List UInt8)} {t : List UInt8} {i : Nat} (hno : ∀ j, j < i → ws.getD j [] ≠ t) (hi : ws.length ≤ i) : idxL ws t = -1 := by
  unfold idxL
  have : ws.findIdx? (· == t) = none := by
    rw [List.findIdx?_eq_none_iff]
    intro x hx
    obtain ⟨j, hj, rfl⟩ := List.mem_iff_getElem.1 hx
    have := hno j (by omega)
    rw [List.getD_eq_getElem?_getD, List.getElem?_eq_getElem hj] at this
    exact beq_eq_false_iff_ne.2 this
  rw [this]
theorem idx_some {ws : List (List UInt8)} {t : List UInt8} {i : Nat} (hi : i < ws.length) (hno : ∀ j, j < i → ws.getD j [] ≠ t) (he : t = ws.getD i []) : idxL ws t = (i : Int) := by
  unfold idxL
  have : ws.findIdx? (· == t) = some i := by
    rw [List.findIdx?_eq_some_iff_getElem]
    refine ⟨hi, ?_, fun j hj => ?_⟩
    · rw [List.getD_eq_getElem?_getD, List.getElem?_eq_getElem hi] at he
      exact beq_iff_eq.2 he.symm
    · have := hno j hj
      rw [List.getD_eq_getElem?_getD, List.getElem?_eq_getElem (by omega)] at this
      simp only [Bool.not_eq_true]
      exact beq_eq_false_iff_ne.2 this
  rw [this]
theorem sig_idx (t : List UInt8) : idxL sigL t = sigOf t := by
  unfold idxL sigL sigOf
  by_cases h0 : t = w0L
  · subst h0; rfl
  · by_cases h1 : t = w1L
    · subst h1; rfl
    · by_cases h2 : t = w2L
      · subst h2; rfl
      · rw [if_neg h0, if_neg h1, if_neg h2]
        simp [Ne.symm h0, Ne.symm h1, Ne.symm h2, List.findIdx?_cons]

set_option maxRecDepth 20000 in
theorem Index_any (ws : List (List UInt8)) (t : List UInt8) (hw : ws.length ≤ 140737488355328) (M : Nat → Option (List AV)) : ACall Tryd.prog 55 [.list false 9 (ws.map AV.str), .str t] M (fun r M' => r = .lit (.int .i64 (idxL ws t)) ∧ M = M') := by
  refine ACall.of Tryd.func55 rfl (n := 19) rfl rfl rfl ?_
  refine AWp.seq (AWp.region ?_)
  refine AOps.read trivial rfl (by decide) (Reader.move (.inr rfl) (ok_const rfl) (v := .lit (.int .i64 0)) rfl) ?_
  refine AOps.nil ?_
  refine AWp.seq ?_
  refine AWp.seq (AWp.region ?_)
  refine AOps.read trivial rfl (by decide) (Reader.move (.inl rfl) (ok_const rfl) (v := .list false 9 (ws.map AV.str)) rfl) ?_
  refine AOps.read trivial rfl (by decide) (Reader.len' (xs := ws.map AV.str) rfl rfl rfl rfl Tryd.underlying23 rfl (m := ws.length) (by simp)) ?_
  refine AOps.read trivial rfl (by decide) (Reader.move (.inl rfl) (ok_const rfl) (v := .lit (.int .i64 0)) rfl) ?_
  refine AOps.nil ?_
  refine AWp.block ?_
  refine AWp.loopE [0, 1, 6, 7, 8] [] (fun m s => ∃ (i : Nat), m = ws.length - i ∧ s = ⟨[(0, .list false 9 (ws.map AV.str)), (1, .str t), (6, .list false 9 (ws.map AV.str)), (7, .lit (.int .i64 (ws.length : Int))), (8, .lit (.int .i64 (i : Int)))], [], M⟩ ∧ (i ≤ ws.length) ∧ (∀ j, j < i → ws.getD j [] ≠ t)) ?_ ?_
  · exact ⟨_, 0, rfl, rfl, Nat.zero_le _, fun j hj => by omega⟩
  · rintro _ _ ⟨i, rfl, rfl, hi, hno⟩
    refine AWp.seq (AWp.region ?_)
    refine AOps.read trivial rfl (by decide) (Reader.int rfl rfl rfl (r := .bool (decide ((i : Int) < (ws.length : Int)))) rfl) ?_
    refine AOps.nil ?_
    refine AWp.seq ?_
    refine AWp.cond (b := decide ((i : Int) < (ws.length : Int))) rfl (fun h1 => ?_) (fun h1 => ?_)
    · skip
      have h1' : i < ws.length := (by have hh := of_decide_eq_true h1; omega)
      clear h1
      refine AWp.skip ?_
      refine AWp.seq ?_
      refine AWp.block ?_
      refine AWp.seq (AWp.region ?_)
      refine AOps.read trivial rfl (by decide) (Reader.move (.inl rfl) (ok_const rfl) (v := .lit (.int .i64 (i : Int))) rfl) ?_
      refine AOps.read trivial rfl (by decide) (Reader.move (.inr rfl) (ok_const rfl) (v := .lit (.int .i64 (i : Int))) rfl) ?_
      refine AOps.nil ?_
      refine AWp.seq (AWp.region ?_)
      refine AOps.read trivial rfl (by decide) (Reader.move (.inl rfl) (ok_const rfl) (v := .str t) rfl) ?_
      refine AOps.read trivial rfl (by decide) (Reader.move (.inl rfl) (ok_const rfl) (v := .list false 9 (ws.map AV.str)) rfl) ?_
      refine AOps.read trivial rfl (by decide) (Reader.move (.inl rfl) (ok_const rfl) (v := .lit (.int .i64 (i : Int))) rfl) ?_
      refine AOps.read trivial rfl (by decide) (Reader.elemAddr (m := i) rfl Tryd.underlying23 sizeOf_9 rfl rfl rfl (e := .str (ws.getD i [])) (strs_at (by first | omega | (show _ < 0; omega)))) ?_
      refine AOps.read trivial rfl (by decide) (Reader.loadE rfl Tryd.underlying9 sizeOf_9 rfl (v := .str (ws.getD i [])) rfl rfl) ?_
      refine AOps.read trivial rfl (by decide) (Reader.strs rfl rfl rfl (r := t == (ws.getD i [])) rfl) ?_
      refine AOps.nil ?_
      refine AWp.cond (b := t == (ws.getD i [])) rfl (fun h2 => ?_) (fun h2 => ?_)
      · skip
        have h2' : t = (ws.getD i []) := (eq_of_beq h2)
        clear h2
        refine AWp.seq (AWp.region ?_)
        refine AOps.read trivial rfl (by decide) (Reader.move (.inl rfl) (ok_const rfl) (v := .lit (.int .i64 (i : Int))) rfl) ?_
        refine AOps.read trivial rfl (by decide) (Reader.move (.inr rfl) (ok_const rfl) (v := .lit (.int .i64 (i : Int))) rfl) ?_
        refine AOps.nil ?_
        refine AWp.ret ?_
        exact ⟨.inl rfl, _, ResOf.one 4 (.lit (.int .i64 (i : Int))) rfl rfl, ⟨congrArg (fun x : Int => AV.lit (.int .i64 x)) ((idx_some (by omega) hno (by assumption)).symm), rfl⟩⟩
      · skip
        have h2' : ¬ (t = (ws.getD i [])) := (beq_eq_false_iff_ne.1 h2)
        clear h2
        refine AWp.skip ?_
        refine AWp.region ?_
        refine AOps.read trivial rfl (by decide) (Reader.sum rfl rfl rfl (m := (i : Int) + 1) (c := ((i + 1 : Nat) : Int)) rfl (by first | exact IntWalk.i64_in _ (by omega) | exact IntWalk.i64_in _ (by constructor <;> omega) | (simp only [];omega))) ?_
        refine AOps.read trivial rfl (by decide) (Reader.move (.inl rfl) (ok_const rfl) (v := .lit (.int .i64 ((i + 1 : Nat) : Int))) rfl) ?_
        refine AOps.nil ?_
        exact ⟨_, by omega, i + 1, rfl, rfl, by omega, nx_0 hno (fun e => (by assumption : ¬ t = (ws.getD i [])) e.symm)⟩
    · skip
      have h1' : ¬ (i < ws.length) := (by have hh := of_decide_eq_false h1; omega)
      clear h1
      refine AWp.exit ?_
      refine AWp.seq (AWp.region ?_)
      refine AOps.read trivial rfl (by decide) (Reader.move (.inr rfl) (ok_const rfl) (v := .lit (.int .i64 (-1))) rfl) ?_
      refine AOps.nil ?_
      refine AWp.ret ?_
      exact ⟨.inl rfl, _, ResOf.one 4 (.lit (.int .i64 (-1))) rfl rfl, ⟨congrArg (fun x : Int => AV.lit (.int .i64 x)) ((idx_none hno (by omega)).symm), rfl⟩⟩

set_option maxRecDepth 20000 in
theorem digits_step (n : Nat) (hn : n ≤ 9223372036854775807) (IH : ∀ m, m < n → m ≤ 9223372036854775807 → ∀ M, ACall Tryd.prog 19 [.lit (.int .i64 (m : Int))] M (fun r M' => r = .str (digs m) ∧ M = M')) (M : Nat → Option (List AV)) : ACall Tryd.prog 19 [.lit (.int .i64 (n : Int))] M (fun r M' => r = .str (digs n) ∧ M = M') := by
  have hd1 := digs_len20 (n / 10) (by omega)
  have hd2 := digs_len20 (n % 10) (by omega)
  refine ACall.of Tryd.func19 rfl (n := 17) rfl rfl rfl ?_
  refine AWp.seq (AWp.region ?_)
  refine AOps.read trivial rfl (by decide) (Reader.move (.inr rfl) (ok_const rfl) (v := .str []) rfl) ?_
  refine AOps.nil ?_
  refine AWp.seq ?_
  refine AWp.seq (AWp.region ?_)
  refine AOps.read trivial rfl (by decide) (Reader.move (.inl rfl) (ok_const rfl) (v := .lit (.int .i64 (n : Int))) rfl) ?_
  refine AOps.read trivial rfl (by decide) (Reader.int rfl rfl rfl (r := .bool (decide ((n : Int) < 10))) rfl) ?_
  refine AOps.nil ?_
  refine AWp.cond (b := decide ((n : Int) < 10)) rfl (fun h1 => ?_) (fun h1 => ?_)
  · skip
    have h1' : n < 10 := (by have hh := of_decide_eq_true h1; omega)
    clear h1
    refine AWp.seq (AWp.region ?_)
    refine AOps.read trivial rfl (by decide) (Reader.move (.inl rfl) (ok_const rfl) (v := .lit (.int .i64 (n : Int))) rfl) ?_
    refine AOps.read trivial rfl (by decide) (Reader.sum rfl rfl rfl (m := 48 + (n : Int)) (c := ((48 + n : Nat) : Int)) rfl (by first | exact IntWalk.i64_in _ (by omega) | exact IntWalk.i64_in _ (by constructor <;> omega) | (simp only [];omega))) ?_
    refine AOps.read trivial rfl (by decide) (Reader.conv rfl Tryd.underlying3 Tryd.underlying5 (by simp) rfl (c := (((UInt8.ofNat (48 + n)).toNat : Nat) : Int)) (conv_dig (by omega))) ?_
    refine AOps.buildSlice (ys := [(0, .lit (.int .u8 (((UInt8.ofNat (48 + n)).toNat : Nat) : Int)))]) (Es := []) (cs := [.lit (.int .u8 (((UInt8.ofNat (48 + n)).toNat : Nat) : Int))]) (xs := (byteAVs [UInt8.ofNat (48 + n)])) trivial rfl (by decide) rfl Tryd.underlying31 Tryd.i5 rfl rfl rfl (by decide) (by refine ⟨rfl, fun j p x hp hx => ?_⟩; match j, hp, hx with | 0, hp, hx => cases hp; cases hx; exact ⟨rfl, .inl ⟨rfl, rfl⟩, rfl, rfl⟩ | _ + 1, hp, hx => cases hp) rfl rfl rfl (all_len rfl) (all_sc rfl) rfl ?_
    refine AOps.read trivial rfl (by decide) (Reader.ofBytes (l := [UInt8.ofNat (48 + n)]) rfl Tryd.underlying31 Tryd.underlying9 Tryd.underlying5 rfl) ?_
    refine AOps.read trivial rfl (by decide) (Reader.move (.inr rfl) (ok_const rfl) (v := .str [UInt8.ofNat (48 + n)]) rfl) ?_
    refine AOps.nil ?_
    refine AWp.ret ?_
    exact ⟨.inl rfl, _, ResOf.one 2 (.str [UInt8.ofNat (48 + n)]) rfl rfl, ⟨congrArg AV.str (digs_one (by omega)), rfl⟩⟩
  · skip
    have h1' : ¬ (n < 10) := (by have hh := of_decide_eq_false h1; omega)
    clear h1
    refine AWp.skip ?_
    refine AWp.seq (AWp.region ?_)
    refine AOps.read trivial rfl (by decide) (Reader.move (.inl rfl) (ok_const rfl) (v := .lit (.int .i64 (n : Int))) rfl) ?_
    refine AOps.read trivial rfl (by decide) (Reader.quo rfl rfl rfl (by decide) (c := ((n / 10 : Nat) : Int)) (by rw [show (10 : Int) = ((10 : Nat) : Int) from rfl, nat_quo]; exact IntWalk.i64_in _ (by omega))) ?_
    refine AOps.call (args := [.lit (.int .i64 ((n / 10 : Nat) : Int))]) trivial rfl (by decide) rfl rfl Tryd.call19 (args_ok rfl) rfl (by intro j x v hx hv; match j, hx, hv with | 0, hx, hv => cases hx; cases hv; exact .inl ⟨rfl, rfl⟩ | _ + 1, hx, hv => cases hx) (IH (n / 10) (by omega) (by omega) M) ?_
    rintro _ _ ⟨rfl, rfl⟩
    refine AOps.read trivial rfl (by decide) (Reader.move (.inl rfl) (ok_const rfl) (v := .lit (.int .i64 (n : Int))) rfl) ?_
    refine AOps.read trivial rfl (by decide) (Reader.rem rfl rfl rfl (by decide) (c := ((n % 10 : Nat) : Int)) (by first | rfl | exact nat_rem _ _)) ?_
    refine AOps.call (args := [.lit (.int .i64 ((n % 10 : Nat) : Int))]) trivial rfl (by decide) rfl rfl Tryd.call19 (args_ok rfl) rfl (by intro j x v hx hv; match j, hx, hv with | 0, hx, hv => cases hx; cases hv; exact .inl ⟨rfl, rfl⟩ | _ + 1, hx, hv => cases hx) (IH (n % 10) (by omega) (by omega) M) ?_
    rintro _ _ ⟨rfl, rfl⟩
    refine AOps.read trivial rfl (by decide) (Reader.cat rfl rfl rfl (by first | omega | (simp only [List.length_append, List.length_cons, List.length_nil]; omega) | (simp; omega)) (c := (digs (n / 10)) ++ (digs (n % 10))) rfl) ?_
    refine AOps.read trivial rfl (by decide) (Reader.move (.inr rfl) (ok_const rfl) (v := .str ((digs (n / 10)) ++ (digs (n % 10)))) rfl) ?_
    refine AOps.nil ?_
    refine AWp.ret ?_
    exact ⟨.inl rfl, _, ResOf.one 2 (.str ((digs (n / 10)) ++ (digs (n % 10)))) rfl rfl, ⟨congrArg AV.str ((digs_big (by omega)).symm), rfl⟩⟩

theorem Digits_any (n : Nat) (hn : n ≤ 9223372036854775807) : ∀ M, ACall Tryd.prog 19 [.lit (.int .i64 (n : Int))] M (fun r M' => r = .str (digs n) ∧ M = M') := by
  induction n using Nat.strongRecOn with
  | _ n ih => intro M; exact digits_step n hn (fun m hm hm2 => ih m hm hm2) M

end Go.Proofs.YtlpihekflkjkfaaDoor
