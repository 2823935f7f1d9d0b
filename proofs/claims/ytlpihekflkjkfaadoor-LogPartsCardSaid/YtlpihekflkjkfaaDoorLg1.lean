/- Walks over abstract values, printed by my program av.py. -/
import Derived.Test.YtlpihekflkjkfaaDoorLgP
import Derived.Test.YtlpihekflkjkfaaDoorThS
import Derived.Test.YtlpihekflkjkfaaDoorLgS
import Derived.Test.YtlpihekflkjkfaaDoorAvAny2
namespace Go.Proofs.YtlpihekflkjkfaaDoor
open Go.RowKit

theorem nx_0 {p : Nat → Prop} {i : Nat} (h : ∀ m, m < i → p m) (hi : p i) : ∀ m, m < i + 1 → p m := by
  intro m hm
  rcases Nat.lt_or_ge m i with h1 | h1
  · exact h m h1
  · rw [show m = i by omega]; exact hi
theorem conv_dig {n : Nat} (h : n < 10) : IntKind.u8.wrap ((48 + n : Nat) : Int) = (((UInt8.ofNat (48 + n)).toNat : Nat) : Int) := by
  rw [IntWalk.u8_in _ (by omega), UInt8.toNat_ofNat_of_lt' (by show 48 + n < 256; omega)]
theorem digs_one {n : Nat} (h : n < 10) : [UInt8.ofNat (48 + n)] = digs n := (digs_small h).symm
theorem digs_len20 (n : Nat) (h : n ≤ 9223372036854775807) : (digs n).length ≤ 19 := digs_len n 19 (by omega) (by decide)
theorem zz_iff {a b : Int} : ((a == 0) = (b == 0)) ↔ (a = 0 ↔ b = 0) := by rw [Bool.eq_iff_iff, beq_iff_eq, beq_iff_eq]
/-- The signals' words, in order. -/
def sigL : List (List UInt8) := [w0L, w1L, w2L]
theorem strs_at {ws : List (List UInt8)} {i : Nat} (h : i < ws.length) : (ws.map AV.str)[i]? = some (.str (ws.getD i [])) := by
  rw [List.getElem?_map, List.getD_eq_getElem?_getD, List.getElem?_eq_getElem h]; rfl
theorem idx_none {ws : List (List UInt8)} {t : List UInt8} {i : Nat} (hno : ∀ j, j < i → ws.getD j [] ≠ t) (hi : ws.length ≤ i) : idxL ws t = -1 := by
  unfold idxL
  have : ws.findIdx? (· == t) = none := by
    rw [List.findIdx?_eq_none_iff]
    intro x hx
    obtain ⟨j, hj, rfl⟩ := List.mem_iff_getElem.1 hx
    have := hno j (by omega)
    rw [List.getD_eq_getElem?_getD, List.getElem?_eq_getElem hj] at this
    exact beq_eq_false_iff_ne.2 this
  rw [this]
theorem idx_some {ws : List (List UInt8)} {t : List UInt8} {i : Nat} (hi : i < ws.length) (hno : ∀ j, j < i → ws.getD j [] ≠ t) (he : t = ws.getD i []) : idxL ws t = (i : Int) := by
  unfold idxL
  have : ws.findIdx? (· == t) = some i := by
    rw [List.findIdx?_eq_some_iff_getElem]
    refine ⟨hi, ?_, fun j hj => ?_⟩
    · rw [List.getD_eq_getElem?_getD, List.getElem?_eq_getElem hi] at he
      exact beq_iff_eq.2 he.symm
    · have := hno j hj
      rw [List.getD_eq_getElem?_getD, List.getElem?_eq_getElem (by omega)] at this
      simp only [Bool.not_eq_true]
      exact beq_eq_false_iff_ne.2 this
  rw [this]
theorem sig_idx (t : List UInt8) : idxL sigL t = sigOf t := by
  unfold idxL sigL sigOf
  by_cases h0 : t = w0L
  · subst h0; rfl
  · by_cases h1 : t = w1L
    · subst h1; rfl
    · by_cases h2 : t = w2L
      · subst h2; rfl
      · rw [if_neg h0, if_neg h1, if_neg h2]
        simp [Ne.symm h0, Ne.symm h1, Ne.symm h2, List.findIdx?_cons]

set_option maxRecDepth 20000 in
theorem Index_any (ws : List (List UInt8)) (t : List UInt8) (hw : ws.length ≤ 140737488355328) (M : Nat → Option (List AV)) : ACall Tryd.prog 55 [.list false 9 (ws.map AV.str), .str t] M (fun r M' => r = .lit (.int .i64 (idxL ws t)) ∧ M = M') := by
  refine ACall.of Tryd.func55 rfl (n := 19) rfl rfl rfl ?_
  refine AWp.seq (AWp.region ?_)
  refine AOps.read trivial rfl (by decide) (Reader.move (.inr rfl) (ok_const rfl) (v := .lit (.int .i64 0)) rfl) ?_
  refine AOps.nil ?_
  refine AWp.seq ?_
  refine AWp.seq (AWp.region ?_)
  refine AOps.read trivial rfl (by decide) (Reader.move (.inl rfl) (ok_const rfl) (v := .list false 9 (ws.map AV.str)) rfl) ?_
  refine AOps.read trivial rfl (by decide) (Reader.len' (xs := ws.map AV.str) rfl rfl rfl rfl Tryd.underlying23 rfl (m := ws.length) (by simp)) ?_
  refine AOps.read trivial rfl (by decide) (Reader.move (.inl rfl) (ok_const rfl) (v := .lit (.int .i64 0)) rfl) ?_
  refine AOps.nil ?_
  refine AWp.block ?_
  refine AWp.loopE [0, 1, 6, 7, 8] [] (fun m s => ∃ (i : Nat), m = ws.length - i ∧ s = ⟨[(0, .list false 9 (ws.map AV.str)), (1, .str t), (6, .list false 9 (ws.map AV.str)), (7, .lit (.int .i64 (ws.length : Int))), (8, .lit (.int .i64 (i : Int)))], [], M⟩ ∧ (i ≤ ws.length) ∧ (∀ j, j < i → ws.getD j [] ≠ t)) ?_ ?_
  · exact ⟨_, 0, rfl, rfl, Nat.zero_le _, fun j hj => by omega⟩
  · rintro _ _ ⟨i, rfl, rfl, hi, hno⟩
    refine AWp.seq (AWp.region ?_)
    refine AOps.read trivial rfl (by decide) (Reader.int rfl rfl rfl (r := .bool (decide ((i : Int) < (ws.length : Int)))) rfl) ?_
    refine AOps.nil ?_
    refine AWp.seq ?_
    refine AWp.cond (b := decide ((i : Int) < (ws.length : Int))) rfl (fun h1 => ?_) (fun h1 => ?_)
    · skip
      have h1' : i < ws.length := (by have hh := of_decide_eq_true h1; omega)
      clear h1
      refine AWp.skip ?_
      refine AWp.seq ?_
      refine AWp.block ?_
      refine AWp.seq (AWp.region ?_)
      refine AOps.read trivial rfl (by decide) (Reader.move (.inl rfl) (ok_const rfl) (v := .lit (.int .i64 (i : Int))) rfl) ?_
      refine AOps.read trivial rfl (by decide) (Reader.move (.inr rfl) (ok_const rfl) (v := .lit (.int .i64 (i : Int))) rfl) ?_
      refine AOps.nil ?_
      refine AWp.seq (AWp.region ?_)
      refine AOps.read trivial rfl (by decide) (Reader.move (.inl rfl) (ok_const rfl) (v := .str t) rfl) ?_
      refine AOps.read trivial rfl (by decide) (Reader.move (.inl rfl) (ok_const rfl) (v := .list false 9 (ws.map AV.str)) rfl) ?_
      refine AOps.read trivial rfl (by decide) (Reader.move (.inl rfl) (ok_const rfl) (v := .lit (.int .i64 (i : Int))) rfl) ?_
      refine AOps.read trivial rfl (by decide) (Reader.elemAddr (m := i) rfl Tryd.underlying23 sizeOf_9 rfl rfl rfl (e := .str (ws.getD i [])) (strs_at (by first | omega | (show _ < 0; omega)))) ?_
      refine AOps.read trivial rfl (by decide) (Reader.loadE rfl Tryd.underlying9 sizeOf_9 rfl (v := .str (ws.getD i [])) rfl rfl) ?_
      refine AOps.read trivial rfl (by decide) (Reader.strs rfl rfl rfl (r := t == (ws.getD i [])) rfl) ?_
      refine AOps.nil ?_
      refine AWp.cond (b := t == (ws.getD i [])) rfl (fun h2 => ?_) (fun h2 => ?_)
      · skip
        have h2' : t = (ws.getD i []) := (eq_of_beq h2)
        clear h2
        refine AWp.seq (AWp.region ?_)
        refine AOps.read trivial rfl (by decide) (Reader.move (.inl rfl) (ok_const rfl) (v := .lit (.int .i64 (i : Int))) rfl) ?_
        refine AOps.read trivial rfl (by decide) (Reader.move (.inr rfl) (ok_const rfl) (v := .lit (.int .i64 (i : Int))) rfl) ?_
        refine AOps.nil ?_
        refine AWp.ret ?_
        exact ⟨.inl rfl, _, ResOf.one 4 (.lit (.int .i64 (i : Int))) rfl rfl, ⟨congrArg (fun x : Int => AV.lit (.int .i64 x)) ((idx_some (by omega) hno (by assumption)).symm), rfl⟩⟩
      · skip
        have h2' : ¬ (t = (ws.getD i [])) := (beq_eq_false_iff_ne.1 h2)
        clear h2
        refine AWp.skip ?_
        refine AWp.region ?_
        refine AOps.read trivial rfl (by decide) (Reader.sum rfl rfl rfl (m := (i : Int) + 1) (c := ((i + 1 : Nat) : Int)) rfl (by first | exact IntWalk.i64_in _ (by omega) | exact IntWalk.i64_in _ (by constructor <;> omega) | (simp only [];omega))) ?_
        refine AOps.read trivial rfl (by decide) (Reader.move (.inl rfl) (ok_const rfl) (v := .lit (.int .i64 ((i + 1 : Nat) : Int))) rfl) ?_
        refine AOps.nil ?_
        exact ⟨_, by omega, i + 1, rfl, rfl, by omega, nx_0 hno (fun e => (by assumption : ¬ t = (ws.getD i [])) e.symm)⟩
    · skip
      have h1' : ¬ (i < ws.length) := (by have hh := of_decide_eq_false h1; omega)
      clear h1
      refine AWp.exit ?_
      refine AWp.seq (AWp.region ?_)
      refine AOps.read trivial rfl (by decide) (Reader.move (.inr rfl) (ok_const rfl) (v := .lit (.int .i64 (-1))) rfl) ?_
      refine AOps.nil ?_
      refine AWp.ret ?_
      exact ⟨.inl rfl, _, ResOf.one 4 (.lit (.int .i64 (-1))) rfl rfl, ⟨congrArg (fun x : Int => AV.lit (.int .i64 x)) ((idx_none hno (by omega)).symm), rfl⟩⟩

set_option maxRecDepth 20000 in
theorem digits_step (n : Nat) (hn : n ≤ 9223372036854775807) (IH : ∀ m, m < n → m ≤ 9223372036854775807 → ∀ M, ACall Tryd.prog 19 [.lit (.int .i64 (m : Int))] M (fun r M' => r = .str (digs m) ∧ M = M')) (M : Nat → Option (List AV)) : ACall Tryd.prog 19 [.lit (.int .i64 (n : Int))] M (fun r M' => r = .str (digs n) ∧ M = M') := by
  have hd1 := digs_len20 (n / 10) (by omega)
  have hd2 := digs_len20 (n % 10) (by omega)
  refine ACall.of Tryd.func19 rfl (n := 17) rfl rfl rfl ?_
  refine AWp.seq (AWp.region ?_)
  refine AOps.read trivial rfl (by decide) (Reader.move (.inr rfl) (ok_const rfl) (v := .str []) rfl) ?_
  refine AOps.nil ?_
  refine AWp.seq ?_
  refine AWp.seq (AWp.region ?_)
  refine AOps.read trivial rfl (by decide) (Reader.move (.inl rfl) (ok_const rfl) (v := .lit (.int .i64 (n : Int))) rfl) ?_
  refine AOps.read trivial rfl (by decide) (Reader.int rfl rfl rfl (r := .bool (decide ((n : Int) < 10))) rfl) ?_
  refine AOps.nil ?_
  refine AWp.cond (b := decide ((n : Int) < 10)) rfl (fun h1 => ?_) (fun h1 => ?_)
  · skip
    have h1' : n < 10 := (by have hh := of_decide_eq_true h1; omega)
    clear h1
    refine AWp.seq (AWp.region ?_)
    refine AOps.read trivial rfl (by decide) (Reader.move (.inl rfl) (ok_const rfl) (v := .lit (.int .i64 (n : Int))) rfl) ?_
    refine AOps.read trivial rfl (by decide) (Reader.sum rfl rfl rfl (m := 48 + (n : Int)) (c := ((48 + n : Nat) : Int)) rfl (by first | exact IntWalk.i64_in _ (by omega) | exact IntWalk.i64_in _ (by constructor <;> omega) | (simp only [];omega))) ?_
    refine AOps.read trivial rfl (by decide) (Reader.conv rfl Tryd.underlying3 Tryd.underlying5 (by simp) rfl (c := (((UInt8.ofNat (48 + n)).toNat : Nat) : Int)) (conv_dig (by omega))) ?_
    refine AOps.buildSlice (ys := [(0, .lit (.int .u8 (((UInt8.ofNat (48 + n)).toNat : Nat) : Int)))]) (Es := []) (cs := [.lit (.int .u8 (((UInt8.ofNat (48 + n)).toNat : Nat) : Int))]) (xs := (byteAVs [UInt8.ofNat (48 + n)])) trivial rfl (by decide) rfl Tryd.underlying31 Tryd.i5 rfl rfl rfl (by decide) (by refine ⟨rfl, fun j p x hp hx => ?_⟩; match j, hp, hx with | 0, hp, hx => cases hp; cases hx; exact ⟨rfl, .inl ⟨rfl, rfl⟩, rfl, rfl⟩ | _ + 1, hp, hx => cases hp) rfl rfl rfl (all_len rfl) (all_sc rfl) rfl ?_
    refine AOps.read trivial rfl (by decide) (Reader.ofBytes (l := [UInt8.ofNat (48 + n)]) rfl Tryd.underlying31 Tryd.underlying9 Tryd.underlying5 rfl) ?_
    refine AOps.read trivial rfl (by decide) (Reader.move (.inr rfl) (ok_const rfl) (v := .str [UInt8.ofNat (48 + n)]) rfl) ?_
    refine AOps.nil ?_
    refine AWp.ret ?_
    exact ⟨.inl rfl, _, ResOf.one 2 (.str [UInt8.ofNat (48 + n)]) rfl rfl, ⟨congrArg AV.str (digs_one (by omega)), rfl⟩⟩
  · skip
    have h1' : ¬ (n < 10) := (by have hh := of_decide_eq_false h1; omega)
    clear h1
    refine AWp.skip ?_
    refine AWp.seq (AWp.region ?_)
    refine AOps.read trivial rfl (by decide) (Reader.move (.inl rfl) (ok_const rfl) (v := .lit (.int .i64 (n : Int))) rfl) ?_
    refine AOps.read trivial rfl (by decide) (Reader.quo rfl rfl rfl (by decide) (c := ((n / 10 : Nat) : Int)) (by rw [show (10 : Int) = ((10 : Nat) : Int) from rfl, nat_quo]; exact IntWalk.i64_in _ (by omega))) ?_
    refine AOps.call (args := [.lit (.int .i64 ((n / 10 : Nat) : Int))]) trivial rfl (by decide) rfl rfl Tryd.call19 (args_ok rfl) rfl (by intro j x v hx hv; match j, hx, hv with | 0, hx, hv => cases hx; cases hv; exact .inl ⟨rfl, rfl⟩ | _ + 1, hx, hv => cases hx) (IH (n / 10) (by omega) (by omega) M) ?_
    rintro _ _ ⟨rfl, rfl⟩
    refine AOps.read trivial rfl (by decide) (Reader.move (.inl rfl) (ok_const rfl) (v := .lit (.int .i64 (n : Int))) rfl) ?_
    refine AOps.read trivial rfl (by decide) (Reader.rem rfl rfl rfl (by decide) (c := ((n % 10 : Nat) : Int)) (by first | rfl | exact nat_rem _ _)) ?_
    refine AOps.call (args := [.lit (.int .i64 ((n % 10 : Nat) : Int))]) trivial rfl (by decide) rfl rfl Tryd.call19 (args_ok rfl) rfl (by intro j x v hx hv; match j, hx, hv with | 0, hx, hv => cases hx; cases hv; exact .inl ⟨rfl, rfl⟩ | _ + 1, hx, hv => cases hx) (IH (n % 10) (by omega) (by omega) M) ?_
    rintro _ _ ⟨rfl, rfl⟩
    refine AOps.read trivial rfl (by decide) (Reader.cat rfl rfl rfl (by first | omega | (simp only [List.length_append, List.length_cons, List.length_nil]; omega) | (simp; omega)) (c := (digs (n / 10)) ++ (digs (n % 10))) rfl) ?_
    refine AOps.read trivial rfl (by decide) (Reader.move (.inr rfl) (ok_const rfl) (v := .str ((digs (n / 10)) ++ (digs (n % 10)))) rfl) ?_
    refine AOps.nil ?_
    refine AWp.ret ?_
    exact ⟨.inl rfl, _, ResOf.one 2 (.str ((digs (n / 10)) ++ (digs (n % 10)))) rfl rfl, ⟨congrArg AV.str ((digs_big (by omega)).symm), rfl⟩⟩

theorem Digits_any (n : Nat) (hn : n ≤ 9223372036854775807) : ∀ M, ACall Tryd.prog 19 [.lit (.int .i64 (n : Int))] M (fun r M' => r = .str (digs n) ∧ M = M') := by
  induction n using Nat.strongRecOn with
  | _ n ih => intro M; exact digits_step n hn (fun m hm hm2 => ih m hm hm2) M


theorem numL_ok {t : List UInt8} {z : Int} (h : Lib.atoiAll t = .ok z) : z = numL t := by unfold numL; rw [h]
theorem numL_bad {t : List UInt8} (h : ∀ z, Lib.atoiAll t ≠ .ok z) : (-1) = numL t := by
  unfold numL
  split
  · rename_i n hn; exact absurd hn (h n)
  · rfl

set_option maxRecDepth 20000 in
theorem lwords_any  (M : Nat → Option (List AV)) : ACall Tryd.prog 56 [] M (fun r M' => r = .list true 9 (kwL.map AV.str) ∧ M = M') := by
  refine ACall.of Tryd.func56 rfl (n := 2) rfl rfl rfl ?_
  refine AWp.seq (AWp.region ?_)
  refine AOps.nilList 9 trivial rfl (by decide) (.inl rfl) ?_
  refine AOps.nil ?_
  refine AWp.seq (AWp.region ?_)
  refine AOps.buildSlice (ys := [(0, .str []), (1, .str [97, 100, 109, 105, 116]), (2, .str [112, 114, 101, 101, 109, 112, 116]), (3, .str [114, 101, 106, 101, 99, 116]), (4, .str [100, 101, 108, 101, 116, 101]), (5, .str [101, 118, 105, 99, 116]), (6, .str [111, 110]), (7, .str [111, 102, 102]), (8, .str [98, 101, 103, 105, 110]), (9, .str [112, 117, 108, 108]), (10, .str [117, 112]), (11, .str [102, 97, 105, 108]), (12, .str [103, 111, 110, 101]), (13, .str [100, 101, 97, 100]), (14, .str [105, 109, 97, 103, 101]), (15, .str [115, 116, 111, 112]), (16, .str [114, 101, 99, 111, 118, 101, 114])]) (Es := []) (cs := [.str [], .str [97, 100, 109, 105, 116], .str [112, 114, 101, 101, 109, 112, 116], .str [114, 101, 106, 101, 99, 116], .str [100, 101, 108, 101, 116, 101], .str [101, 118, 105, 99, 116], .str [111, 110], .str [111, 102, 102], .str [98, 101, 103, 105, 110], .str [112, 117, 108, 108], .str [117, 112], .str [102, 97, 105, 108], .str [103, 111, 110, 101], .str [100, 101, 97, 100], .str [105, 109, 97, 103, 101], .str [115, 116, 111, 112], .str [114, 101, 99, 111, 118, 101, 114]]) (xs := [.str [], .str [97, 100, 109, 105, 116], .str [112, 114, 101, 101, 109, 112, 116], .str [114, 101, 106, 101, 99, 116], .str [100, 101, 108, 101, 116, 101], .str [101, 118, 105, 99, 116], .str [111, 110], .str [111, 102, 102], .str [98, 101, 103, 105, 110], .str [112, 117, 108, 108], .str [117, 112], .str [102, 97, 105, 108], .str [103, 111, 110, 101], .str [100, 101, 97, 100], .str [105, 109, 97, 103, 101], .str [115, 116, 111, 112], .str [114, 101, 99, 111, 118, 101, 114]]) trivial rfl (by decide) rfl Tryd.underlying23 Tryd.i9 rfl rfl rfl (by decide) (by refine ⟨rfl, fun j p x hp hx => ?_⟩; match j, hp, hx with | 0, hp, hx => cases hp; cases hx; exact ⟨rfl, .inl ⟨rfl, rfl⟩, rfl, rfl⟩ | 1, hp, hx => cases hp; cases hx; exact ⟨rfl, .inl ⟨rfl, rfl⟩, rfl, rfl⟩ | 2, hp, hx => cases hp; cases hx; exact ⟨rfl, .inl ⟨rfl, rfl⟩, rfl, rfl⟩ | 3, hp, hx => cases hp; cases hx; exact ⟨rfl, .inl ⟨rfl, rfl⟩, rfl, rfl⟩ | 4, hp, hx => cases hp; cases hx; exact ⟨rfl, .inl ⟨rfl, rfl⟩, rfl, rfl⟩ | 5, hp, hx => cases hp; cases hx; exact ⟨rfl, .inl ⟨rfl, rfl⟩, rfl, rfl⟩ | 6, hp, hx => cases hp; cases hx; exact ⟨rfl, .inl ⟨rfl, rfl⟩, rfl, rfl⟩ | 7, hp, hx => cases hp; cases hx; exact ⟨rfl, .inl ⟨rfl, rfl⟩, rfl, rfl⟩ | 8, hp, hx => cases hp; cases hx; exact ⟨rfl, .inl ⟨rfl, rfl⟩, rfl, rfl⟩ | 9, hp, hx => cases hp; cases hx; exact ⟨rfl, .inl ⟨rfl, rfl⟩, rfl, rfl⟩ | 10, hp, hx => cases hp; cases hx; exact ⟨rfl, .inl ⟨rfl, rfl⟩, rfl, rfl⟩ | 11, hp, hx => cases hp; cases hx; exact ⟨rfl, .inl ⟨rfl, rfl⟩, rfl, rfl⟩ | 12, hp, hx => cases hp; cases hx; exact ⟨rfl, .inl ⟨rfl, rfl⟩, rfl, rfl⟩ | 13, hp, hx => cases hp; cases hx; exact ⟨rfl, .inl ⟨rfl, rfl⟩, rfl, rfl⟩ | 14, hp, hx => cases hp; cases hx; exact ⟨rfl, .inl ⟨rfl, rfl⟩, rfl, rfl⟩ | 15, hp, hx => cases hp; cases hx; exact ⟨rfl, .inl ⟨rfl, rfl⟩, rfl, rfl⟩ | 16, hp, hx => cases hp; cases hx; exact ⟨rfl, .inl ⟨rfl, rfl⟩, rfl, rfl⟩ | _ + 17, hp, hx => cases hp) rfl rfl rfl (all_len rfl) (all_sc rfl) rfl ?_
  refine AOps.steal trivial rfl (by decide) (by decide) (.inr rfl) (v := .list true 9 [.str [], .str [97, 100, 109, 105, 116], .str [112, 114, 101, 101, 109, 112, 116], .str [114, 101, 106, 101, 99, 116], .str [100, 101, 108, 101, 116, 101], .str [101, 118, 105, 99, 116], .str [111, 110], .str [111, 102, 102], .str [98, 101, 103, 105, 110], .str [112, 117, 108, 108], .str [117, 112], .str [102, 97, 105, 108], .str [103, 111, 110, 101], .str [100, 101, 97, 100], .str [105, 109, 97, 103, 101], .str [115, 116, 111, 112], .str [114, 101, 99, 111, 118, 101, 114]]) rfl ?_
  refine AOps.nil ?_
  refine AWp.ret ?_
  exact ⟨.inl rfl, _, ResOf.one 0 (.list true 9 [.str [], .str [97, 100, 109, 105, 116], .str [112, 114, 101, 101, 109, 112, 116], .str [114, 101, 106, 101, 99, 116], .str [100, 101, 108, 101, 116, 101], .str [101, 118, 105, 99, 116], .str [111, 110], .str [111, 102, 102], .str [98, 101, 103, 105, 110], .str [112, 117, 108, 108], .str [117, 112], .str [102, 97, 105, 108], .str [103, 111, 110, 101], .str [100, 101, 97, 100], .str [105, 109, 97, 103, 101], .str [115, 116, 111, 112], .str [114, 101, 99, 111, 118, 101, 114]]) rfl rfl, ⟨rfl, rfl⟩⟩

set_option maxRecDepth 20000 in
theorem lsigs_any  (M : Nat → Option (List AV)) : ACall Tryd.prog 85 [] M (fun r M' => r = .list true 9 (sigL.map AV.str) ∧ M = M') := by
  refine ACall.of Tryd.func85 rfl (n := 2) rfl rfl rfl ?_
  refine AWp.seq (AWp.region ?_)
  refine AOps.nilList 9 trivial rfl (by decide) (.inl rfl) ?_
  refine AOps.nil ?_
  refine AWp.seq (AWp.region ?_)
  refine AOps.buildSlice (ys := [(0, .str [109, 101, 109, 111, 114, 121]), (1, .str [100, 105, 115, 107]), (2, .str [112, 105, 100])]) (Es := []) (cs := [.str [109, 101, 109, 111, 114, 121], .str [100, 105, 115, 107], .str [112, 105, 100]]) (xs := [.str [109, 101, 109, 111, 114, 121], .str [100, 105, 115, 107], .str [112, 105, 100]]) trivial rfl (by decide) rfl Tryd.underlying23 Tryd.i9 rfl rfl rfl (by decide) (by refine ⟨rfl, fun j p x hp hx => ?_⟩; match j, hp, hx with | 0, hp, hx => cases hp; cases hx; exact ⟨rfl, .inl ⟨rfl, rfl⟩, rfl, rfl⟩ | 1, hp, hx => cases hp; cases hx; exact ⟨rfl, .inl ⟨rfl, rfl⟩, rfl, rfl⟩ | 2, hp, hx => cases hp; cases hx; exact ⟨rfl, .inl ⟨rfl, rfl⟩, rfl, rfl⟩ | _ + 3, hp, hx => cases hp) rfl rfl rfl (all_len rfl) (all_sc rfl) rfl ?_
  refine AOps.steal trivial rfl (by decide) (by decide) (.inr rfl) (v := .list true 9 [.str [109, 101, 109, 111, 114, 121], .str [100, 105, 115, 107], .str [112, 105, 100]]) rfl ?_
  refine AOps.nil ?_
  refine AWp.ret ?_
  exact ⟨.inl rfl, _, ResOf.one 0 (.list true 9 [.str [109, 101, 109, 111, 114, 121], .str [100, 105, 115, 107], .str [112, 105, 100]]) rfl rfl, ⟨rfl, rfl⟩⟩

theorem inS_f {n : Int} (h : (bif decide (n < 0) then true else decide (n ≥ 3)) = true) : inS n = false := by
  unfold inS; rw [Bool.and_eq_false_iff, decide_eq_false_iff_not, decide_eq_false_iff_not]
  by_cases h0 : n < 0
  · exact .inl (by omega)
  · rw [decide_eq_false h0] at h; have := of_decide_eq_true h; exact .inr (by omega)
theorem inS_t {n : Int} (h : (bif decide (n < 0) then true else decide (n ≥ 3)) = false) : 0 ≤ n ∧ n ≤ 2 ∧ inS n = true := by
  by_cases h0 : n < 0
  · rw [decide_eq_true h0] at h; cases h
  · rw [decide_eq_false h0] at h; have := of_decide_eq_false h
    refine ⟨by omega, by omega, ?_⟩
    unfold inS; rw [decide_eq_true (by omega), decide_eq_true (by omega)]; rfl
theorem sgw_of {n : Int} (h : 0 ≤ n ∧ n ≤ 2 ∧ inS n = true) : sigL.getD n.toNat [] = sgw n := by
  obtain ⟨h0, h1, h2⟩ := h
  unfold sgw; rw [if_pos h2]
  have : n = 0 ∨ n = 1 ∨ n = 2 := by omega
  rcases this with rfl | rfl | rfl <;> rfl
theorem sgw_no {n : Int} (h : inS n = false) : sgw n = [] := by unfold sgw; rw [h]; rfl

set_option maxRecDepth 20000 in
theorem lsig_any (n : Int) (M : Nat → Option (List AV)) : ACall Tryd.prog 98 [.lit (.int .i64 n)] M (fun r M' => r = .tuple [.str (sgw n), .lit (.bool (inS n))] ∧ M = M') := by
  refine ACall.of Tryd.func98 rfl (n := 18) rfl rfl rfl ?_
  refine AWp.seq (AWp.region ?_)
  refine AOps.read trivial rfl (by decide) (Reader.move (.inr rfl) (ok_const rfl) (v := .str []) rfl) ?_
  refine AOps.read trivial rfl (by decide) (Reader.move (.inr rfl) (ok_const rfl) (v := .lit (.bool false)) rfl) ?_
  refine AOps.nil ?_
  refine AWp.seq (AWp.region ?_)
  refine AOps.call (args := []) trivial rfl (by decide) rfl rfl Tryd.call85 (args_ok rfl) rfl (by intro j x v hx hv; match j, hx, hv with  | _ + 0, hx, hv => cases hx) (lsigs_any M) ?_
  rintro _ _ ⟨rfl, rfl⟩
  refine AOps.steal trivial rfl (by decide) (by decide) (.inr rfl) (v := .list true 9 (sigL.map AV.str)) rfl ?_
  refine AOps.nil ?_
  refine AWp.seq ?_
  refine AWp.regionJ [13, 0, 2, 3, 4] [] (fun z => ⟨(13, .lit (.bool z)) :: [(0, .lit (.int .i64 n)), (2, .str []), (3, .lit (.bool false)), (4, .list true 9 (sigL.map AV.str))], [], M⟩) (z := bif (decide (n < 0)) then true else (decide (n ≥ (3 : Int)))) ?_ ?_
  · skip
    refine AOps.read trivial rfl (by decide) (Reader.move (.inl rfl) (ok_const rfl) (v := .lit (.int .i64 n)) rfl) ?_
    refine AOps.read trivial rfl (by decide) (Reader.int rfl rfl rfl (r := .bool (decide (n < 0))) rfl) ?_
    refine AOps.read trivial rfl (by decide) (Reader.move (.inl rfl) (ok_const rfl) (v := .lit (.bool (decide (n < 0)))) rfl) ?_
    refine AOps.splitJ (t := 8) (b := decide (n < 0)) (x := true) (y := (decide (n ≥ (3 : Int)))) rfl (fun h1 => ?_) (fun h1 => ?_)
    · skip
      have h1' : n < 0 := (by have hh := of_decide_eq_true h1; omega)
      clear h1
      refine AOps.skip ⟨2, false, 8, _, rfl, rfl, rfl, by simp⟩ rfl (by decide) ?_
      refine AOps.skip ⟨2, false, 8, _, rfl, rfl, rfl, by simp⟩ rfl (by decide) ?_
      refine AOps.skip ⟨2, false, 8, _, rfl, rfl, rfl, by simp⟩ rfl (by decide) ?_
      refine AOps.skip ⟨2, false, 8, _, rfl, rfl, rfl, by simp⟩ rfl (by decide) ?_
      refine AOps.read trivial rfl (by decide) (Reader.pick rfl (b := true) rfl (ok_const rfl) (ok_const rfl) (v := .lit (.bool true)) rfl) ?_
      exact AOps.nil rfl
    · skip
      have h1' : ¬ (n < 0) := (by have hh := of_decide_eq_false h1; omega)
      clear h1
      refine AOps.read ⟨8, rfl, rfl⟩ rfl (by decide) (Reader.move (.inl rfl) (ok_const rfl) (v := .lit (.int .i64 n)) rfl) ?_
      refine AOps.read ⟨8, rfl, rfl⟩ rfl (by decide) (Reader.move (.inl rfl) (ok_const rfl) (v := .list false 9 (sigL.map AV.str)) rfl) ?_
      refine AOps.read ⟨8, rfl, rfl⟩ rfl (by decide) (Reader.len' (xs := sigL.map AV.str) rfl rfl rfl rfl Tryd.underlying23 rfl (m := 3) rfl) ?_
      refine AOps.read ⟨8, rfl, rfl⟩ rfl (by decide) (Reader.int rfl rfl rfl (r := .bool (decide (n ≥ (3 : Int)))) rfl) ?_
      refine AOps.read trivial rfl (by decide) (Reader.pick rfl (b := false) rfl (ok_const rfl) (ok_const rfl) (v := .lit (.bool (decide (n ≥ (3 : Int))))) rfl) ?_
      exact AOps.nil rfl
  refine AWp.cond (b := bif (decide (n < 0)) then true else (decide (n ≥ (3 : Int)))) rfl (fun h2 => ?_) (fun h2 => ?_)
  · skip
    have h2' : inS n = false := (inS_f h2)
    clear h2
    refine AWp.seq (AWp.region ?_)
    refine AOps.read trivial rfl (by decide) (Reader.move (.inr rfl) (ok_const rfl) (v := .str []) rfl) ?_
    refine AOps.read trivial rfl (by decide) (Reader.move (.inr rfl) (ok_const rfl) (v := .lit (.bool false)) rfl) ?_
    refine AOps.nil ?_
    refine AWp.ret ?_
    exact ⟨.inl rfl, _, ResOf.two 2 3 (.str []) (.lit (.bool false)) rfl rfl (.inl rfl) (.inl rfl) (by decide), ⟨by rw [sgw_no (by assumption), (show inS n = false by assumption)], rfl⟩⟩
  · skip
    have h2' : 0 ≤ n ∧ n ≤ 2 ∧ inS n = true := (inS_t h2)
    clear h2
    refine AWp.skip ?_
    refine AWp.seq (AWp.region ?_)
    refine AOps.read trivial rfl (by decide) (Reader.move (.inl rfl) (ok_const rfl) (v := .list false 9 (sigL.map AV.str)) rfl) ?_
    refine AOps.read trivial rfl (by decide) (Reader.move (.inl rfl) (ok_const rfl) (v := .lit (.int .i64 n)) rfl) ?_
    refine AOps.read trivial rfl (by decide) (Reader.elemAddr (m := n.toNat) rfl Tryd.underlying23 sizeOf_9 rfl rfl (by omega) (e := .str (sigL.getD n.toNat [])) (strs_at (by first | omega | (show _ < 3; omega)))) ?_
    refine AOps.read trivial rfl (by decide) (Reader.loadE rfl Tryd.underlying9 sizeOf_9 rfl (v := .str (sigL.getD n.toNat [])) rfl rfl) ?_
    refine AOps.read trivial rfl (by decide) (Reader.move (.inr rfl) (ok_const rfl) (v := .str (sigL.getD n.toNat [])) rfl) ?_
    refine AOps.read trivial rfl (by decide) (Reader.move (.inr rfl) (ok_const rfl) (v := .lit (.bool true)) rfl) ?_
    refine AOps.nil ?_
    refine AWp.ret ?_
    exact ⟨.inl rfl, _, ResOf.two 2 3 (.str (sigL.getD n.toNat [])) (.lit (.bool true)) rfl rfl (.inl rfl) (.inl rfl) (by decide), ⟨by rw [sgw_of (n := n) (by assumption), (show 0 ≤ n ∧ n ≤ 2 ∧ inS n = true by assumption).2.2], rfl⟩⟩

set_option maxRecDepth 20000 in
theorem counted_any (n : Int) (M : Nat → Option (List AV)) : ACall Tryd.prog 99 [.lit (.int .i64 n)] M (fun r M' => r = .lit (.bool (decide (n ≥ 0))) ∧ M = M') := by
  refine ACall.of Tryd.func99 rfl (n := 5) rfl rfl rfl ?_
  refine AWp.seq (AWp.region ?_)
  refine AOps.read trivial rfl (by decide) (Reader.move (.inr rfl) (ok_const rfl) (v := .lit (.bool false)) rfl) ?_
  refine AOps.nil ?_
  refine AWp.seq (AWp.region ?_)
  refine AOps.read trivial rfl (by decide) (Reader.move (.inl rfl) (ok_const rfl) (v := .lit (.int .i64 n)) rfl) ?_
  refine AOps.read trivial rfl (by decide) (Reader.int rfl rfl rfl (r := .bool (decide (n ≥ 0))) rfl) ?_
  refine AOps.read trivial rfl (by decide) (Reader.move (.inr rfl) (ok_const rfl) (v := .lit (.bool (decide (n ≥ 0)))) rfl) ?_
  refine AOps.nil ?_
  refine AWp.ret ?_
  exact ⟨.inl rfl, _, ResOf.one 2 (.lit (.bool (decide (n ≥ 0)))) rfl rfl, ⟨rfl, rfl⟩⟩

/-- A kind that is. -/
def KnownP (k : Int) : Prop := 1 ≤ k ∧ k ≤ 16
instance (k : Int) : Decidable (KnownP k) := by unfold KnownP; infer_instance
theorem known_b {k : Int} : (bif decide (k ≥ 1) then decide (k ≤ 16) else false) = decide (KnownP k) := by
  unfold KnownP
  by_cases h : k ≥ 1 <;> by_cases h2 : k ≤ 16 <;> simp [h, h2] <;> omega

set_option maxRecDepth 20000 in
theorem known_any (k : Int) (M : Nat → Option (List AV)) : ACall Tryd.prog 60 [.lit (.int .i64 k)] M (fun r M' => r = .lit (.bool (decide (KnownP k))) ∧ M = M') := by
  refine ACall.of Tryd.func60 rfl (n := 9) rfl rfl rfl ?_
  refine AWp.seq (AWp.region ?_)
  refine AOps.read trivial rfl (by decide) (Reader.move (.inr rfl) (ok_const rfl) (v := .lit (.bool false)) rfl) ?_
  refine AOps.nil ?_
  refine AWp.regionJ [2, 0] [] (fun z => ⟨(2, .lit (.bool z)) :: [(0, .lit (.int .i64 k))], [], M⟩) (z := bif (decide (k ≥ 1)) then (decide (k ≤ 16)) else false) ?_ ?_
  · skip
    refine AOps.read trivial rfl (by decide) (Reader.move (.inl rfl) (ok_const rfl) (v := .lit (.int .i64 k)) rfl) ?_
    refine AOps.read trivial rfl (by decide) (Reader.int rfl rfl rfl (r := .bool (decide (k ≥ 1))) rfl) ?_
    refine AOps.read trivial rfl (by decide) (Reader.move (.inl rfl) (ok_const rfl) (v := .lit (.bool (decide (k ≥ 1)))) rfl) ?_
    refine AOps.splitJ (t := 5) (b := decide (k ≥ 1)) (x := (decide (k ≤ 16))) (y := false) rfl (fun h1 => ?_) (fun h1 => ?_)
    · skip
      have h1' : k ≥ 1 := (by have hh := of_decide_eq_true h1; omega)
      clear h1
      refine AOps.read ⟨5, rfl, rfl⟩ rfl (by decide) (Reader.move (.inl rfl) (ok_const rfl) (v := .lit (.int .i64 k)) rfl) ?_
      refine AOps.read ⟨5, rfl, rfl⟩ rfl (by decide) (Reader.int rfl rfl rfl (r := .bool (decide (k ≤ 16))) rfl) ?_
      refine AOps.read trivial rfl (by decide) (Reader.pick rfl (b := true) rfl (ok_const rfl) (ok_const rfl) (v := .lit (.bool (decide (k ≤ 16)))) rfl) ?_
      refine AOps.read trivial rfl (by decide) (Reader.move (.inr rfl) (ok_const rfl) (v := .lit (.bool (decide (k ≤ 16)))) rfl) ?_
      exact AOps.nil rfl
    · skip
      have h1' : ¬ (k ≥ 1) := (by have hh := of_decide_eq_false h1; omega)
      clear h1
      refine AOps.skip ⟨2, true, 5, _, rfl, rfl, rfl, by simp⟩ rfl (by decide) ?_
      refine AOps.skip ⟨2, true, 5, _, rfl, rfl, rfl, by simp⟩ rfl (by decide) ?_
      refine AOps.read trivial rfl (by decide) (Reader.pick rfl (b := false) rfl (ok_const rfl) (ok_const rfl) (v := .lit (.bool false)) rfl) ?_
      refine AOps.read trivial rfl (by decide) (Reader.move (.inr rfl) (ok_const rfl) (v := .lit (.bool false)) rfl) ?_
      exact AOps.nil rfl
  refine AWp.ret ?_
  exact ⟨.inl rfl, _, ResOf.one 2 (.lit (.bool (bif (decide (k ≥ 1)) then (decide (k ≤ 16)) else false))) rfl rfl, ⟨congrArg (fun b => AV.lit (.bool b)) (known_b), rfl⟩⟩

theorem vis_f {c : UInt8} (h : (bif decide ((c.toNat : Int) ≤ 32) then true else decide ((c.toNat : Int) > 126)) = true) : visB c = false := by
  unfold visB; rw [Bool.and_eq_false_iff, decide_eq_false_iff_not, decide_eq_false_iff_not]
  by_cases h0 : (c.toNat : Int) ≤ 32
  · exact .inl (by omega)
  · rw [decide_eq_false h0] at h; have := of_decide_eq_true h; exact .inr (by omega)
theorem vis_t {c : UInt8} (h : (bif decide ((c.toNat : Int) ≤ 32) then true else decide ((c.toNat : Int) > 126)) = false) : visB c = true := by
  by_cases h0 : (c.toNat : Int) ≤ 32
  · rw [decide_eq_true h0] at h; cases h
  · rw [decide_eq_false h0] at h; have := of_decide_eq_false h
    unfold visB; rw [decide_eq_true (by omega), decide_eq_true (by omega)]; rfl
theorem visr_f {c : UInt8} (h : (bif decide ((c.toNat : Int) < 33) then true else decide ((c.toNat : Int) > 126)) = true) : visB c = false := by
  unfold visB; rw [Bool.and_eq_false_iff, decide_eq_false_iff_not, decide_eq_false_iff_not]
  by_cases h0 : (c.toNat : Int) < 33
  · exact .inl (by omega)
  · rw [decide_eq_false h0] at h; have := of_decide_eq_true h; exact .inr (by omega)
theorem visr_t {c : UInt8} (h : (bif decide ((c.toNat : Int) < 33) then true else decide ((c.toNat : Int) > 126)) = false) : visB c = true := by
  by_cases h0 : (c.toNat : Int) < 33
  · rw [decide_eq_true h0] at h; cases h
  · rw [decide_eq_false h0] at h; have := of_decide_eq_false h
    unfold visB; rw [decide_eq_true (by omega), decide_eq_true (by omega)]; rfl
theorem nx_vis {s : List UInt8} {i : Nat} (hno : ∀ j, j < i → visB (s.getD j 0) = true) (h : visB (s.getD i 0) = true) : ∀ j, j < i + 1 → visB (s.getD j 0) = true := by
  intro j hj
  rcases Nat.lt_succ_iff_lt_or_eq.1 hj with h1 | rfl
  · exact hno j h1
  · exact h
theorem word_bad {s : List UInt8} {i : Nat} (hi : i < s.length) (h : visB (s.getD i 0) = false) : wordB s = false := by
  have : s.all visB = false := by
    rw [List.all_eq_false]
    refine ⟨s.getD i 0, ?_, by rw [h]; decide⟩
    rw [List.getD_eq_getElem?_getD, List.getElem?_eq_getElem hi]; exact List.getElem_mem hi
  unfold wordB; rw [this]; rfl
theorem word_good {s : List UInt8} {i : Nat} (hi : s.length ≤ i) (hno : ∀ j, j < i → visB (s.getD j 0) = true) : s.all visB = true := by
  rw [List.all_eq_true]
  intro x hx
  obtain ⟨j, hj, rfl⟩ := List.mem_iff_getElem.1 hx
  have := hno j (by omega)
  rwa [List.getD_eq_getElem?_getD, List.getElem?_eq_getElem hj] at this
theorem word_end {s : List UInt8} {i : Nat} (hi : s.length ≤ i) (hno : ∀ j, j < i → visB (s.getD j 0) = true) : (bif decide ((s.length : Int) ≥ 1) then (bif decide ((s.length : Int) ≤ 60) then ((s.getD 0 0).toNat : Int) != 35 else false) else false) = wordB s := by
  unfold wordB; rw [word_good hi hno]
  by_cases h1 : 1 ≤ s.length <;> by_cases h2 : s.length ≤ 60
  · rw [decide_eq_true (show (s.length : Int) ≥ 1 by omega), decide_eq_true (show (s.length : Int) ≤ 60 by omega), decide_eq_true h1, decide_eq_true h2]
    simp only [cond_true, Bool.true_and]
    rw [Bool.eq_iff_iff, bne_iff_ne, decide_eq_true_iff]; omega
  · rw [decide_eq_true (show (s.length : Int) ≥ 1 by omega), decide_eq_false (show ¬ (s.length : Int) ≤ 60 by omega), decide_eq_true h1, decide_eq_false h2]; rfl
  · rw [decide_eq_false (show ¬ (s.length : Int) ≥ 1 by omega), decide_eq_false h1]; rfl
  · rw [decide_eq_false (show ¬ (s.length : Int) ≥ 1 by omega), decide_eq_false h1]; rfl

set_option maxRecDepth 20000 in
theorem Word_any (t : List UInt8) (hl : t.length ≤ 4294967280) (M : Nat → Option (List AV)) : ACall Tryd.prog 100 [.str t] M (fun r M' => r = .lit (.bool (wordB t)) ∧ M = M') := by
  refine ACall.of Tryd.func100 rfl (n := 32) rfl rfl rfl ?_
  refine AWp.seq (AWp.region ?_)
  refine AOps.read trivial rfl (by decide) (Reader.move (.inr rfl) (ok_const rfl) (v := .lit (.bool false)) rfl) ?_
  refine AOps.nil ?_
  refine AWp.seq ?_
  refine AWp.seq (AWp.region ?_)
  refine AOps.read trivial rfl (by decide) (Reader.move (.inl rfl) (ok_const rfl) (v := .str t) rfl) ?_
  refine AOps.toBytes (D := .bool) trivial rfl (by decide) rfl Tryd.underlying9 Tryd.underlying31 Tryd.underlying5 rfl (sizeOf_5) (by first | omega | (simp; omega)) ?_
  refine AOps.read trivial rfl (by decide) (Reader.len' (xs := byteAVs t) rfl rfl rfl rfl Tryd.underlying31 rfl (m := t.length) (byteAVs_len _)) ?_
  refine AOps.read trivial rfl (by decide) (Reader.move (.inl rfl) (ok_const rfl) (v := .lit (.int .i64 0)) rfl) ?_
  refine AOps.nil ?_
  refine AWp.block ?_
  refine AWp.loopE [0, 6, 7, 8] [] (fun m s => ∃ (i : Nat), m = t.length - i ∧ s = ⟨[(0, .str t), (6, .list false 5 (byteAVs t)), (7, .lit (.int .i64 (t.length : Int))), (8, .lit (.int .i64 (i : Int)))], [], M⟩ ∧ (i ≤ t.length) ∧ (∀ j, j < i → visB (t.getD j 0) = true)) ?_ ?_
  · exact ⟨_, 0, rfl, rfl, Nat.zero_le _, fun j hj => by omega⟩
  · rintro _ _ ⟨i, rfl, rfl, hi, hno⟩
    refine AWp.seq (AWp.region ?_)
    refine AOps.read trivial rfl (by decide) (Reader.int rfl rfl rfl (r := .bool (decide ((i : Int) < (t.length : Int)))) rfl) ?_
    refine AOps.nil ?_
    refine AWp.seq ?_
    refine AWp.cond (b := decide ((i : Int) < (t.length : Int))) rfl (fun h1 => ?_) (fun h1 => ?_)
    · skip
      have h1' : i < t.length := (by have hh := of_decide_eq_true h1; omega)
      clear h1
      refine AWp.skip ?_
      refine AWp.seq ?_
      refine AWp.block ?_
      refine AWp.seq (AWp.region ?_)
      refine AOps.read trivial rfl (by decide) (Reader.elemAddr (m := i) rfl Tryd.underlying31 sizeOf_5 rfl rfl rfl (e := .lit (.int .u8 ((t.getD i 0).toNat : Int))) (byteAVs_at (by first | omega | (simp; omega)))) ?_
      refine AOps.read trivial rfl (by decide) (Reader.loadE rfl Tryd.underlying5 sizeOf_5 rfl (v := .lit (.int .u8 ((t.getD i 0).toNat : Int))) rfl rfl) ?_
      refine AOps.read trivial rfl (by decide) (Reader.move (.inr rfl) (ok_const rfl) (v := .lit (.int .u8 ((t.getD i 0).toNat : Int))) rfl) ?_
      refine AOps.nil ?_
      refine AWp.regionJ [17, 0, 6, 7, 8, 9, 4] [] (fun z => ⟨(17, .lit (.bool z)) :: [(0, .str t), (6, .list false 5 (byteAVs t)), (7, .lit (.int .i64 (t.length : Int))), (8, .lit (.int .i64 (i : Int))), (9, .lit (.bool (decide ((i : Int) < (t.length : Int))))), (4, .lit (.int .u8 ((t.getD i 0).toNat : Int)))], [], M⟩) (z := bif (decide (((t.getD i 0).toNat : Int) ≤ 32)) then true else (decide (((t.getD i 0).toNat : Int) > 126))) ?_ ?_
      · skip
        refine AOps.read trivial rfl (by decide) (Reader.move (.inl rfl) (ok_const rfl) (v := .lit (.int .u8 ((t.getD i 0).toNat : Int))) rfl) ?_
        refine AOps.read trivial rfl (by decide) (Reader.int rfl rfl rfl (r := .bool (decide (((t.getD i 0).toNat : Int) ≤ 32))) rfl) ?_
        refine AOps.read trivial rfl (by decide) (Reader.move (.inl rfl) (ok_const rfl) (v := .lit (.bool (decide (((t.getD i 0).toNat : Int) ≤ 32)))) rfl) ?_
        refine AOps.splitJ (t := 14) (b := decide (((t.getD i 0).toNat : Int) ≤ 32)) (x := true) (y := (decide (((t.getD i 0).toNat : Int) > 126))) rfl (fun h2 => ?_) (fun h2 => ?_)
        · skip
          have h2' : ((t.getD i 0).toNat) ≤ 32 := (by have hh := of_decide_eq_true h2; omega)
          clear h2
          refine AOps.skip ⟨2, false, 14, _, rfl, rfl, rfl, by simp⟩ rfl (by decide) ?_
          refine AOps.skip ⟨2, false, 14, _, rfl, rfl, rfl, by simp⟩ rfl (by decide) ?_
          refine AOps.read trivial rfl (by decide) (Reader.pick rfl (b := true) rfl (ok_const rfl) (ok_const rfl) (v := .lit (.bool true)) rfl) ?_
          exact AOps.nil rfl
        · skip
          have h2' : ¬ (((t.getD i 0).toNat) ≤ 32) := (by have hh := of_decide_eq_false h2; omega)
          clear h2
          refine AOps.read ⟨14, rfl, rfl⟩ rfl (by decide) (Reader.move (.inl rfl) (ok_const rfl) (v := .lit (.int .u8 ((t.getD i 0).toNat : Int))) rfl) ?_
          refine AOps.read ⟨14, rfl, rfl⟩ rfl (by decide) (Reader.int rfl rfl rfl (r := .bool (decide (((t.getD i 0).toNat : Int) > 126))) rfl) ?_
          refine AOps.read trivial rfl (by decide) (Reader.pick rfl (b := false) rfl (ok_const rfl) (ok_const rfl) (v := .lit (.bool (decide (((t.getD i 0).toNat : Int) > 126)))) rfl) ?_
          exact AOps.nil rfl
      refine AWp.cond (b := bif (decide (((t.getD i 0).toNat : Int) ≤ 32)) then true else (decide (((t.getD i 0).toNat : Int) > 126))) rfl (fun h3 => ?_) (fun h3 => ?_)
      · skip
        have h3' : visB (t.getD i 0) = false := (vis_f h3)
        clear h3
        refine AWp.seq (AWp.region ?_)
        refine AOps.read trivial rfl (by decide) (Reader.move (.inr rfl) (ok_const rfl) (v := .lit (.bool false)) rfl) ?_
        refine AOps.nil ?_
        refine AWp.ret ?_
        exact ⟨.inl rfl, _, ResOf.one 2 (.lit (.bool false)) rfl rfl, ⟨congrArg (fun b => AV.lit (.bool b)) ((word_bad (by omega) (by assumption)).symm), rfl⟩⟩
      · skip
        have h3' : visB (t.getD i 0) = true := (vis_t h3)
        clear h3
        refine AWp.skip ?_
        refine AWp.region ?_
        refine AOps.read trivial rfl (by decide) (Reader.sum rfl rfl rfl (m := (i : Int) + 1) (c := ((i + 1 : Nat) : Int)) rfl (by first | exact IntWalk.i64_in _ (by omega) | exact IntWalk.i64_in _ (by constructor <;> omega) | (simp only [];omega))) ?_
        refine AOps.read trivial rfl (by decide) (Reader.move (.inl rfl) (ok_const rfl) (v := .lit (.int .i64 ((i + 1 : Nat) : Int))) rfl) ?_
        refine AOps.nil ?_
        exact ⟨_, by omega, i + 1, rfl, rfl, by omega, nx_vis hno (by assumption)⟩
    · skip
      have h1' : ¬ (i < t.length) := (by have hh := of_decide_eq_false h1; omega)
      clear h1
      refine AWp.exit ?_
      refine AWp.regionJ [2, 0, 6, 7, 8, 9] [] (fun z => ⟨(2, .lit (.bool z)) :: [(0, .str t), (6, .list false 5 (byteAVs t)), (7, .lit (.int .i64 (t.length : Int))), (8, .lit (.int .i64 (i : Int))), (9, .lit (.bool (decide ((i : Int) < (t.length : Int)))))], [], M⟩) (z := bif (decide ((t.length : Int) ≥ 1)) then (bif (decide ((t.length : Int) ≤ 60)) then (((t.getD 0 0).toNat : Int) != 35) else false) else false) ?_ ?_
      · skip
        refine AOps.read trivial rfl (by decide) (Reader.move (.inl rfl) (ok_const rfl) (v := .str t) rfl) ?_
        refine AOps.read trivial rfl (by decide) (Reader.lenStr' (l := t) rfl rfl rfl rfl Tryd.underlying9 rfl (m := t.length) (by first | rfl | simp)) ?_
        refine AOps.read trivial rfl (by decide) (Reader.int rfl rfl rfl (r := .bool (decide ((t.length : Int) ≥ 1))) rfl) ?_
        refine AOps.read trivial rfl (by decide) (Reader.move (.inl rfl) (ok_const rfl) (v := .lit (.bool (decide ((t.length : Int) ≥ 1)))) rfl) ?_
        refine AOps.splitJ (t := 22) (b := decide ((t.length : Int) ≥ 1)) (x := (bif (decide ((t.length : Int) ≤ 60)) then (((t.getD 0 0).toNat : Int) != 35) else false)) (y := false) rfl (fun h4 => ?_) (fun h4 => ?_)
        · skip
          have h4' : t.length ≥ 1 := (by have hh := of_decide_eq_true h4; omega)
          clear h4
          refine AOps.read ⟨22, rfl, rfl⟩ rfl (by decide) (Reader.move (.inl rfl) (ok_const rfl) (v := .str t) rfl) ?_
          refine AOps.read ⟨22, rfl, rfl⟩ rfl (by decide) (Reader.lenStr' (l := t) rfl rfl rfl rfl Tryd.underlying9 rfl (m := t.length) (by first | rfl | simp)) ?_
          refine AOps.read ⟨22, rfl, rfl⟩ rfl (by decide) (Reader.int rfl rfl rfl (r := .bool (decide ((t.length : Int) ≤ 60))) rfl) ?_
          refine AOps.read trivial rfl (by decide) (Reader.pick rfl (b := true) rfl (ok_const rfl) (ok_const rfl) (v := .lit (.bool (decide ((t.length : Int) ≤ 60)))) rfl) ?_
          refine AOps.read trivial rfl (by decide) (Reader.move (.inl rfl) (ok_const rfl) (v := .lit (.bool (decide ((t.length : Int) ≤ 60)))) rfl) ?_
          refine AOps.splitJ (t := 27) (b := decide ((t.length : Int) ≤ 60)) (x := (((t.getD 0 0).toNat : Int) != 35)) (y := false) rfl (fun h5 => ?_) (fun h5 => ?_)
          · skip
            have h5' : t.length ≤ 60 := (by have hh := of_decide_eq_true h5; omega)
            clear h5
            refine AOps.read ⟨27, rfl, rfl⟩ rfl (by decide) (Reader.move (.inl rfl) (ok_const rfl) (v := .str t) rfl) ?_
            refine AOps.read ⟨27, rfl, rfl⟩ rfl (by decide) (Reader.byte (m := 0) (c := t.getD 0 0) rfl Tryd.underlying9 rfl rfl rfl (getD_some (by first | omega | (simp; omega)))) ?_
            refine AOps.read ⟨27, rfl, rfl⟩ rfl (by decide) (Reader.int rfl rfl rfl (r := .bool (((t.getD 0 0).toNat : Int) != 35)) rfl) ?_
            refine AOps.read trivial rfl (by decide) (Reader.pick rfl (b := true) rfl (ok_const rfl) (ok_const rfl) (v := .lit (.bool (((t.getD 0 0).toNat : Int) != 35))) rfl) ?_
            refine AOps.read trivial rfl (by decide) (Reader.move (.inr rfl) (ok_const rfl) (v := .lit (.bool (((t.getD 0 0).toNat : Int) != 35))) rfl) ?_
            exact AOps.nil rfl
          · skip
            have h5' : ¬ (t.length ≤ 60) := (by have hh := of_decide_eq_false h5; omega)
            clear h5
            refine AOps.skip ⟨8, true, 27, _, rfl, rfl, rfl, by simp⟩ rfl (by decide) ?_
            refine AOps.skip ⟨8, true, 27, _, rfl, rfl, rfl, by simp⟩ rfl (by decide) ?_
            refine AOps.skip ⟨8, true, 27, _, rfl, rfl, rfl, by simp⟩ rfl (by decide) ?_
            refine AOps.read trivial rfl (by decide) (Reader.pick rfl (b := false) rfl (ok_const rfl) (ok_const rfl) (v := .lit (.bool false)) rfl) ?_
            refine AOps.read trivial rfl (by decide) (Reader.move (.inr rfl) (ok_const rfl) (v := .lit (.bool false)) rfl) ?_
            exact AOps.nil rfl
        · skip
          have h4' : ¬ (t.length ≥ 1) := (by have hh := of_decide_eq_false h4; omega)
          clear h4
          refine AOps.skip ⟨3, true, 22, _, rfl, rfl, rfl, by simp⟩ rfl (by decide) ?_
          refine AOps.skip ⟨3, true, 22, _, rfl, rfl, rfl, by simp⟩ rfl (by decide) ?_
          refine AOps.skip ⟨3, true, 22, _, rfl, rfl, rfl, by simp⟩ rfl (by decide) ?_
          refine AOps.read trivial rfl (by decide) (Reader.pick rfl (b := false) rfl (ok_const rfl) (ok_const rfl) (v := .lit (.bool false)) rfl) ?_
          refine AOps.read trivial rfl (by decide) (Reader.move (.inl rfl) (ok_const rfl) (v := .lit (.bool false)) rfl) ?_
          refine AOps.skip ⟨8, true, 27, _, rfl, rfl, rfl, by simp⟩ rfl (by decide) ?_
          refine AOps.skip ⟨8, true, 27, _, rfl, rfl, rfl, by simp⟩ rfl (by decide) ?_
          refine AOps.skip ⟨8, true, 27, _, rfl, rfl, rfl, by simp⟩ rfl (by decide) ?_
          refine AOps.read trivial rfl (by decide) (Reader.pick rfl (b := false) rfl (ok_const rfl) (ok_const rfl) (v := .lit (.bool false)) rfl) ?_
          refine AOps.read trivial rfl (by decide) (Reader.move (.inr rfl) (ok_const rfl) (v := .lit (.bool false)) rfl) ?_
          exact AOps.nil rfl
      refine AWp.ret ?_
      exact ⟨.inl rfl, _, ResOf.one 2 (.lit (.bool (bif (decide ((t.length : Int) ≥ 1)) then (bif (decide ((t.length : Int) ≤ 60)) then (((t.getD 0 0).toNat : Int) != 35) else false) else false))) rfl rfl, ⟨congrArg (fun b => AV.lit (.bool b)) (word_end (by omega) hno), rfl⟩⟩

set_option maxRecDepth 20000 in
theorem lnum_ok (t : List UInt8) (hl : t.length ≤ 4294967280) (nz : Int) (hz : Lib.atoiAll t = .ok nz) (M : Nat → Option (List AV)) : ACall Tryd.prog 53 [.str t] M (fun r M' => r = .lit (.int .i64 (numL t)) ∧ M = M') := by
  refine ACall.of Tryd.func53 rfl (n := 13) rfl rfl rfl ?_
  refine AWp.seq (AWp.region ?_)
  refine AOps.read trivial rfl (by decide) (Reader.move (.inr rfl) (ok_const rfl) (v := .lit (.int .i64 0)) rfl) ?_
  refine AOps.nil ?_
  refine AWp.seq (AWp.region ?_)
  refine AOps.read trivial rfl (by decide) (Reader.move (.inl rfl) (ok_const rfl) (v := .str t) rfl) ?_
  refine AOps.call (args := [.str t]) trivial rfl (by decide) rfl rfl Tryd.call84 (args_ok rfl) rfl (by intro j x v hx hv; match j, hx, hv with | 0, hx, hv => cases hx; cases hv; exact .inl ⟨rfl, rfl⟩ | _ + 1, hx, hv => cases hx) (atoi_ok t hl nz hz M) ?_
  rintro _ _ ⟨rfl, rfl⟩
  refine AOps.read trivial rfl (by decide) (Reader.move (.inl rfl) (ok_const rfl) (v := .tuple [.lit (.int .i64 nz), .lit .nilIface]) rfl) ?_
  refine AOps.read trivial rfl (by decide) (Reader.extract (v := .lit (.int .i64 nz)) rfl rfl rfl rfl) ?_
  refine AOps.read trivial rfl (by decide) (Reader.extract (v := .lit .nilIface) rfl rfl rfl rfl) ?_
  refine AOps.read trivial rfl (by decide) (Reader.move (.inr rfl) (ok_const rfl) (v := .lit (.int .i64 nz)) rfl) ?_
  refine AOps.read trivial rfl (by decide) (Reader.move (.inr rfl) (ok_const rfl) (v := .lit .nilIface) rfl) ?_
  refine AOps.nil ?_
  refine AWp.seq ?_
  refine AWp.seq (AWp.region ?_)
  refine AOps.read trivial rfl (by decide) (Reader.move (.inl rfl) (ok_const rfl) (v := .lit .nilIface) rfl) ?_
  refine AOps.read trivial rfl (by decide) (Reader.ifNil rfl Tryd.underlying116 (v := .nilIface) rfl (.inl ⟨rfl, rfl⟩) (.inr ⟨rfl, rfl⟩)) ?_
  refine AOps.nil ?_
  refine AWp.cond (b := false) rfl (fun hx => by cases hx) (fun hx => ?_)
  refine AWp.skip ?_
  refine AWp.seq (AWp.region ?_)
  refine AOps.read trivial rfl (by decide) (Reader.move (.inl rfl) (ok_const rfl) (v := .lit (.int .i64 nz)) rfl) ?_
  refine AOps.read trivial rfl (by decide) (Reader.move (.inr rfl) (ok_const rfl) (v := .lit (.int .i64 nz)) rfl) ?_
  refine AOps.nil ?_
  refine AWp.ret ?_
  exact ⟨.inl rfl, _, ResOf.one 2 (.lit (.int .i64 nz)) rfl rfl, ⟨congrArg (fun x : Int => AV.lit (.int .i64 x)) (numL_ok hz), rfl⟩⟩

set_option maxRecDepth 20000 in
theorem lnum_bad (t : List UInt8) (hl : t.length ≤ 4294967280) (hz : ∀ z, Lib.atoiAll t ≠ .ok z) (M : Nat → Option (List AV)) : ACall Tryd.prog 53 [.str t] M (fun r M' => r = .lit (.int .i64 (numL t)) ∧ M = M') := by
  refine ACall.of Tryd.func53 rfl (n := 13) rfl rfl rfl ?_
  refine AWp.seq (AWp.region ?_)
  refine AOps.read trivial rfl (by decide) (Reader.move (.inr rfl) (ok_const rfl) (v := .lit (.int .i64 0)) rfl) ?_
  refine AOps.nil ?_
  refine AWp.seq (AWp.region ?_)
  refine AOps.read trivial rfl (by decide) (Reader.move (.inl rfl) (ok_const rfl) (v := .str t) rfl) ?_
  refine AOps.call (args := [.str t]) trivial rfl (by decide) rfl rfl Tryd.call84 (args_ok rfl) rfl (by intro j x v hx hv; match j, hx, hv with | 0, hx, hv => cases hx; cases hv; exact .inl ⟨rfl, rfl⟩ | _ + 1, hx, hv => cases hx) (atoi_bad t hl hz M) ?_
  rintro _ _ ⟨⟨nz, te, pe, rfl⟩, rfl⟩
  refine AOps.read trivial rfl (by decide) (Reader.move (.inl rfl) (ok_const rfl) (v := .tuple [.lit (.int .i64 nz), .lit (.iface te pe)]) rfl) ?_
  refine AOps.read trivial rfl (by decide) (Reader.extract (v := .lit (.int .i64 nz)) rfl rfl rfl rfl) ?_
  refine AOps.read trivial rfl (by decide) (Reader.extract (v := .lit (.iface te pe)) rfl rfl rfl rfl) ?_
  refine AOps.read trivial rfl (by decide) (Reader.move (.inr rfl) (ok_const rfl) (v := .lit (.int .i64 nz)) rfl) ?_
  refine AOps.read trivial rfl (by decide) (Reader.move (.inr rfl) (ok_const rfl) (v := .lit (.iface te pe)) rfl) ?_
  refine AOps.nil ?_
  refine AWp.seq ?_
  refine AWp.seq (AWp.region ?_)
  refine AOps.read trivial rfl (by decide) (Reader.move (.inl rfl) (ok_const rfl) (v := .lit (.iface te pe)) rfl) ?_
  refine AOps.read trivial rfl (by decide) (Reader.ifNil rfl Tryd.underlying116 (v := (.iface te pe)) rfl (.inr ⟨⟨_, _, rfl⟩, rfl⟩) (.inr ⟨rfl, rfl⟩)) ?_
  refine AOps.nil ?_
  refine AWp.cond (b := true) rfl (fun hx => ?_) (fun hx => by cases hx)
  refine AWp.seq (AWp.region ?_)
  refine AOps.read trivial rfl (by decide) (Reader.move (.inr rfl) (ok_const rfl) (v := .lit (.int .i64 (-1))) rfl) ?_
  refine AOps.nil ?_
  refine AWp.ret ?_
  exact ⟨.inl rfl, _, ResOf.one 2 (.lit (.int .i64 (-1))) rfl rfl, ⟨congrArg (fun x : Int => AV.lit (.int .i64 x)) (numL_bad hz), rfl⟩⟩

theorem lnum_any (t : List UInt8) (hl : t.length ≤ 4294967280) (M : Nat → Option (List AV)) : ACall Tryd.prog 53 [.str t] M (fun r M' => r = .lit (.int .i64 (numL t)) ∧ M = M') := by
  by_cases h : ∃ z, Lib.atoiAll t = .ok z
  · obtain ⟨z, hz⟩ := h
    exact lnum_ok t hl z hz M
  · exact lnum_bad t hl (fun z e => h ⟨z, e⟩) M

end Go.Proofs.YtlpihekflkjkfaaDoor
