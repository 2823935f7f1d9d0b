/- Walks over abstract values, printed by my program av.py. -/
import Derived.Test.YtlpihekflkjkfaaDoorLgP
import Derived.Test.YtlpihekflkjkfaaDoorThS
import Derived.Test.YtlpihekflkjkfaaDoorLgS
import Derived.Test.YtlpihekflkjkfaaDoorAvAny2
import Derived.Test.YtlpihekflkjkfaaDoorAvZ
namespace Go.Proofs.YtlpihekflkjkfaaDoor
open Go.RowKit

theorem nx_0 {p : Nat → Prop} {i : Nat} (h : ∀ m, m < i → p m) (hi : p i) : ∀ m, m < i + 1 → p m := by
  intro m hm
  rcases Nat.lt_or_ge m i with h1 | h1
  · exact h m h1
  · rw [show m = i by omega]; exact hi
theorem conv_dig {n : Nat} (h : n < 10) : IntKind.u8.wrap ((48 + n : Nat) : Int) = (((UInt8.ofNat (48 + n)).toNat : Nat) : Int) := by
  rw [IntWalk.u8_in _ (by omega), UInt8.toNat_ofNat_of_lt' (by show 48 + n < 256; omega)]
theorem digs_one {n : Nat} (h : n < 10) : [UInt8.ofNat (48 + n)] = digs n := (digs_small h).symm
theorem digs_len20 (n : Nat) (h : n ≤ 9223372036854775807) : (digs n).length ≤ 19 := digs_len n 19 (by omega) (by decide)
theorem zz_iff {a b : Int} : ((a == 0) = (b == 0)) ↔ (a = 0 ↔ b = 0) := by rw [Bool.eq_iff_iff, beq_iff_eq, beq_iff_eq]
/-- The signals' words, in order. -/
def sigL : List (List UInt8) := [w0L, w1L, w2L]
theorem strs_at {ws : List (List UInt8)} {i : Nat} (h : i < ws.length) : (ws.map AV.str)[i]? = some (.str (ws.getD i [])) := by
  rw [List.getElem?_map, List.getD_eq_getElem?_getD, List.getElem?_eq_getElem h]; rfl
theorem idx_none {ws : List (List UInt8)} {t : List UInt8} {i : Nat} (hno : ∀ j, j < i → ws.getD j [] ≠ t) (hi : ws.length ≤ i) : idxL ws t = -1 := by
  unfold idxL
  have : ws.findIdx? (· == t) = none := by
    rw [List.findIdx?_eq_none_iff]
    intro x hx
    obtain ⟨j, hj, rfl⟩ := List.mem_iff_getElem.1 hx
    have := hno j (by omega)
    rw [List.getD_eq_getElem?_getD, List.getElem?_eq_getElem hj] at this
    exact beq_eq_false_iff_ne.2 this
  rw [this]
theorem idx_some {ws : List (List UInt8)} {t : List UInt8} {i : Nat} (hi : i < ws.length) (hno : ∀ j, j < i → ws.getD j [] ≠ t) (he : t = ws.getD i []) : idxL ws t = (i : Int) := by
  unfold idxL
  have : ws.findIdx? (· == t) = some i := by
    rw [List.findIdx?_eq_some_iff_getElem]
    refine ⟨hi, ?_, fun j hj => ?_⟩
    · rw [List.getD_eq_getElem?_getD, List.getElem?_eq_getElem hi] at he
      exact beq_iff_eq.2 he.symm
    · have := hno j hj
      rw [List.getD_eq_getElem?_getD, List.getElem?_eq_getElem (by omega)] at this
      simp only [Bool.not_eq_true]
      exact beq_eq_false_iff_ne.2 this
  rw [this]
theorem sig_idx (t : List UInt8) : idxL sigL t = sigOf t := by
  unfold idxL sigL sigOf
  by_cases h0 : t = w0L
  · subst h0; rfl
  · by_cases h1 : t = w1L
    · subst h1; rfl
    · by_cases h2 : t = w2L
      · subst h2; rfl
      · rw [if_neg h0, if_neg h1, if_neg h2]
        simp [Ne.symm h0, Ne.symm h1, Ne.symm h2, List.findIdx?_cons]

set_option maxRecDepth 20000 in
theorem Index_any (ws : List (List UInt8)) (t : List UInt8) (hw : ws.length ≤ 140737488355328) (M : Nat → Option (List AV)) : ACall Tryd.prog 55 [.list false 9 (ws.map AV.str), .str t] M (fun r M' => r = zI (idxL ws t) ∧ M = M') := by
  refine ACall.of Tryd.func55 rfl (n := 19) rfl rfl rfl ?_
  refine zg ?_
  refine zM (zI 0) ?_
  refine zN ?_
  refine AWp.seq ?_
  refine zg ?_
  refine zM (.list false 9 (ws.map AV.str)) ?_
  refine zr (zL (ws.map AV.str) ws.length Tryd.underlying23 (by simp)) ?_
  refine zM (zI 0) ?_
  refine zN ?_
  refine AWp.block ?_
  refine AWp.loopE [0, 1, 6, 7, 8] [] (fun m s => ∃ (i : Nat), m = ws.length - i ∧ s = ⟨[(0, .list false 9 (ws.map AV.str)), (1, .str t), (6, .list false 9 (ws.map AV.str)), (7, zI (ws.length : Int)), (8, zI (i : Int))], [], M⟩ ∧ (i ≤ ws.length) ∧ (∀ j, j < i → ws.getD j [] ≠ t)) ?_ ?_
  · exact ⟨_, 0, rfl, rfl, Nat.zero_le _, fun j hj => by omega⟩
  · rintro _ _ ⟨i, rfl, rfl, hi, hno⟩
    refine zg ?_
    refine zr (zi (decide ((i : Int) < (ws.length : Int)))) ?_
    refine zN ?_
    refine AWp.seq ?_
    refine zC (b := decide ((i : Int) < (ws.length : Int))) rfl (fun h1 => ?_) (fun h1 => ?_)
    · skip
      have h1' : i < ws.length := (by have hh := of_decide_eq_true h1; omega)
      clear h1
      refine AWp.skip ?_
      refine AWp.seq ?_
      refine AWp.block ?_
      refine zg ?_
      refine zM (zI (i : Int)) ?_
      refine zM (zI (i : Int)) ?_
      refine zN ?_
      refine zg ?_
      refine zM (.str t) ?_
      refine zM (.list false 9 (ws.map AV.str)) ?_
      refine zM (zI (i : Int)) ?_
      refine zr (zel i (.str (ws.getD i [])) Tryd.underlying23 sizeOf_9 (strs_at (by first | omega | (show _ < 0; omega)))) ?_
      refine zr (zlE (.str (ws.getD i [])) Tryd.underlying9 sizeOf_9) ?_
      refine zr (zt (t == (ws.getD i []))) ?_
      refine zN ?_
      refine zC (b := t == (ws.getD i [])) rfl (fun h2 => ?_) (fun h2 => ?_)
      · skip
        have h2' : t = (ws.getD i []) := (eq_of_beq h2)
        clear h2
        refine zg ?_
        refine zM (zI (i : Int)) ?_
        refine zM (zI (i : Int)) ?_
        refine zN ?_
        refine AWp.ret ?_
        exact ⟨.inl rfl, _, ResOf.one 4 (zI (i : Int)) rfl rfl, ⟨congrArg (fun x : Int => AV.lit (.int .i64 x)) ((idx_some (by omega) hno (by assumption)).symm), rfl⟩⟩
      · skip
        have h2' : ¬ (t = (ws.getD i [])) := (beq_eq_false_iff_ne.1 h2)
        clear h2
        refine AWp.skip ?_
        refine AWp.region ?_
        refine zr (zw ((i : Int) + 1) ((i + 1 : Nat) : Int)) ?_
        refine zM (zI ((i + 1 : Nat) : Int)) ?_
        refine zN ?_
        exact ⟨_, by omega, i + 1, rfl, rfl, by omega, nx_0 hno (fun e => (by assumption : ¬ t = (ws.getD i [])) e.symm)⟩
    · skip
      have h1' : ¬ (i < ws.length) := (by have hh := of_decide_eq_false h1; omega)
      clear h1
      refine AWp.exit ?_
      refine zg ?_
      refine zM (zI (-1)) ?_
      refine zN ?_
      refine AWp.ret ?_
      exact ⟨.inl rfl, _, ResOf.one 4 (zI (-1)) rfl rfl, ⟨congrArg (fun x : Int => AV.lit (.int .i64 x)) ((idx_none hno (by omega)).symm), rfl⟩⟩

set_option maxRecDepth 20000 in
theorem digits_step (n : Nat) (hn : n ≤ 9223372036854775807) (IH : ∀ m, m < n → m ≤ 9223372036854775807 → ∀ M, ACall Tryd.prog 19 [zI (m : Int)] M (fun r M' => r = .str (digs m) ∧ M = M')) (M : Nat → Option (List AV)) : ACall Tryd.prog 19 [zI (n : Int)] M (fun r M' => r = .str (digs n) ∧ M = M') := by
  have hd1 := digs_len20 (n / 10) (by omega)
  have hd2 := digs_len20 (n % 10) (by omega)
  refine ACall.of Tryd.func19 rfl (n := 17) rfl rfl rfl ?_
  refine zg ?_
  refine zM (.str []) ?_
  refine zN ?_
  refine AWp.seq ?_
  refine zg ?_
  refine zM (zI (n : Int)) ?_
  refine zr (zi (decide ((n : Int) < 10))) ?_
  refine zN ?_
  refine zC (b := decide ((n : Int) < 10)) rfl (fun h1 => ?_) (fun h1 => ?_)
  · skip
    have h1' : n < 10 := (by have hh := of_decide_eq_true h1; omega)
    clear h1
    refine zg ?_
    refine zM (zI (n : Int)) ?_
    refine zr (zw (48 + (n : Int)) ((48 + n : Nat) : Int)) ?_
    refine zr (Reader.conv rfl Tryd.underlying3 Tryd.underlying5 (by simp) rfl (c := (((UInt8.ofNat (48 + n)).toNat : Nat) : Int)) (conv_dig (by omega))) ?_
    refine zbS [] (byteAVs [UInt8.ofNat (48 + n)]) Tryd.underlying31 Tryd.i5 ?_
    refine zr (Reader.ofBytes (l := [UInt8.ofNat (48 + n)]) rfl Tryd.underlying31 Tryd.underlying9 Tryd.underlying5 rfl) ?_
    refine zM (.str [UInt8.ofNat (48 + n)]) ?_
    refine zN ?_
    refine AWp.ret ?_
    exact ⟨.inl rfl, _, ResOf.one 2 (.str [UInt8.ofNat (48 + n)]) rfl rfl, ⟨congrArg AV.str (digs_one (by omega)), rfl⟩⟩
  · skip
    have h1' : ¬ (n < 10) := (by have hh := of_decide_eq_false h1; omega)
    clear h1
    refine AWp.skip ?_
    refine zg ?_
    refine zM (zI (n : Int)) ?_
    refine zr (Reader.quo rfl rfl rfl (by decide) (c := ((n / 10 : Nat) : Int)) (by rw [show (10 : Int) = ((10 : Nat) : Int) from rfl, nat_quo]; exact IntWalk.i64_in _ (by omega))) ?_
    refine zc [zI ((n / 10 : Nat) : Int)] Tryd.call19 (IH (n / 10) (by omega) (by omega) M) ?_
    rintro _ _ ⟨rfl, rfl⟩
    refine zM (zI (n : Int)) ?_
    refine zr (Reader.rem rfl rfl rfl (by decide) (c := ((n % 10 : Nat) : Int)) (by first | rfl | exact nat_rem _ _)) ?_
    refine zc [zI ((n % 10 : Nat) : Int)] Tryd.call19 (IH (n % 10) (by omega) (by omega) M) ?_
    rintro _ _ ⟨rfl, rfl⟩
    refine zr (Reader.cat rfl rfl rfl (by first | omega | (simp only [List.length_append, List.length_cons, List.length_nil]; omega) | (simp; omega)) (c := (digs (n / 10)) ++ (digs (n % 10))) rfl) ?_
    refine zM (.str ((digs (n / 10)) ++ (digs (n % 10)))) ?_
    refine zN ?_
    refine AWp.ret ?_
    exact ⟨.inl rfl, _, ResOf.one 2 (.str ((digs (n / 10)) ++ (digs (n % 10)))) rfl rfl, ⟨congrArg AV.str ((digs_big (by omega)).symm), rfl⟩⟩

theorem Digits_any (n : Nat) (hn : n ≤ 9223372036854775807) : ∀ M, ACall Tryd.prog 19 [zI (n : Int)] M (fun r M' => r = .str (digs n) ∧ M = M') := by
  induction n using Nat.strongRecOn with
  | _ n ih => intro M; exact digits_step n hn (fun m hm hm2 => ih m hm hm2) M


theorem numL_ok {t : List UInt8} {z : Int} (h : Lib.atoiAll t = .ok z) : z = numL t := by unfold numL; rw [h]
theorem numL_bad {t : List UInt8} (h : ∀ z, Lib.atoiAll t ≠ .ok z) : (-1) = numL t := by
  unfold numL
  split
  · rename_i n hn; exact absurd hn (h n)
  · rfl

set_option maxRecDepth 20000 in
theorem lwords_any  (M : Nat → Option (List AV)) : ACall Tryd.prog 56 [] M (fun r M' => r = .list true 9 (kwL.map AV.str) ∧ M = M') := by
  refine ACall.of Tryd.func56 rfl (n := 2) rfl rfl rfl ?_
  refine zg ?_
  refine AOps.nilList 9 trivial rfl (by decide) (.inl rfl) ?_
  refine zN ?_
  refine zg ?_
  refine zbS [] [.str [], .str [97, 100, 109, 105, 116], .str [112, 114, 101, 101, 109, 112, 116], .str [114, 101, 106, 101, 99, 116], .str [100, 101, 108, 101, 116, 101], .str [101, 118, 105, 99, 116], .str [111, 110], .str [111, 102, 102], .str [98, 101, 103, 105, 110], .str [112, 117, 108, 108], .str [117, 112], .str [102, 97, 105, 108], .str [103, 111, 110, 101], .str [100, 101, 97, 100], .str [105, 109, 97, 103, 101], .str [115, 116, 111, 112], .str [114, 101, 99, 111, 118, 101, 114]] Tryd.underlying23 Tryd.i9 ?_
  refine zT (v := .list true 9 [.str [], .str [97, 100, 109, 105, 116], .str [112, 114, 101, 101, 109, 112, 116], .str [114, 101, 106, 101, 99, 116], .str [100, 101, 108, 101, 116, 101], .str [101, 118, 105, 99, 116], .str [111, 110], .str [111, 102, 102], .str [98, 101, 103, 105, 110], .str [112, 117, 108, 108], .str [117, 112], .str [102, 97, 105, 108], .str [103, 111, 110, 101], .str [100, 101, 97, 100], .str [105, 109, 97, 103, 101], .str [115, 116, 111, 112], .str [114, 101, 99, 111, 118, 101, 114]]) rfl ?_
  refine zN ?_
  refine AWp.ret ?_
  exact ⟨.inl rfl, _, ResOf.one 0 (.list true 9 [.str [], .str [97, 100, 109, 105, 116], .str [112, 114, 101, 101, 109, 112, 116], .str [114, 101, 106, 101, 99, 116], .str [100, 101, 108, 101, 116, 101], .str [101, 118, 105, 99, 116], .str [111, 110], .str [111, 102, 102], .str [98, 101, 103, 105, 110], .str [112, 117, 108, 108], .str [117, 112], .str [102, 97, 105, 108], .str [103, 111, 110, 101], .str [100, 101, 97, 100], .str [105, 109, 97, 103, 101], .str [115, 116, 111, 112], .str [114, 101, 99, 111, 118, 101, 114]]) rfl rfl, ⟨rfl, rfl⟩⟩

set_option maxRecDepth 20000 in
theorem lsigs_any  (M : Nat → Option (List AV)) : ACall Tryd.prog 85 [] M (fun r M' => r = .list true 9 (sigL.map AV.str) ∧ M = M') := by
  refine ACall.of Tryd.func85 rfl (n := 2) rfl rfl rfl ?_
  refine zg ?_
  refine AOps.nilList 9 trivial rfl (by decide) (.inl rfl) ?_
  refine zN ?_
  refine zg ?_
  refine zbS [] [.str [109, 101, 109, 111, 114, 121], .str [100, 105, 115, 107], .str [112, 105, 100]] Tryd.underlying23 Tryd.i9 ?_
  refine zT (v := .list true 9 [.str [109, 101, 109, 111, 114, 121], .str [100, 105, 115, 107], .str [112, 105, 100]]) rfl ?_
  refine zN ?_
  refine AWp.ret ?_
  exact ⟨.inl rfl, _, ResOf.one 0 (.list true 9 [.str [109, 101, 109, 111, 114, 121], .str [100, 105, 115, 107], .str [112, 105, 100]]) rfl rfl, ⟨rfl, rfl⟩⟩

theorem inS_f {n : Int} (h : (bif decide (n < 0) then true else decide (n ≥ 3)) = true) : inS n = false := by
  unfold inS; rw [Bool.and_eq_false_iff, decide_eq_false_iff_not, decide_eq_false_iff_not]
  by_cases h0 : n < 0
  · exact .inl (by omega)
  · rw [decide_eq_false h0] at h; have := of_decide_eq_true h; exact .inr (by omega)
theorem inS_t {n : Int} (h : (bif decide (n < 0) then true else decide (n ≥ 3)) = false) : 0 ≤ n ∧ n ≤ 2 ∧ inS n = true := by
  by_cases h0 : n < 0
  · rw [decide_eq_true h0] at h; cases h
  · rw [decide_eq_false h0] at h; have := of_decide_eq_false h
    refine ⟨by omega, by omega, ?_⟩
    unfold inS; rw [decide_eq_true (by omega), decide_eq_true (by omega)]; rfl
theorem sgw_of {n : Int} (h : 0 ≤ n ∧ n ≤ 2 ∧ inS n = true) : sigL.getD n.toNat [] = sgw n := by
  obtain ⟨h0, h1, h2⟩ := h
  unfold sgw; rw [if_pos h2]
  have : n = 0 ∨ n = 1 ∨ n = 2 := by omega
  rcases this with rfl | rfl | rfl <;> rfl
theorem sgw_no {n : Int} (h : inS n = false) : sgw n = [] := by unfold sgw; rw [h]; rfl

set_option maxRecDepth 20000 in
theorem lsig_any (n : Int) (M : Nat → Option (List AV)) : ACall Tryd.prog 98 [zI n] M (fun r M' => r = .tuple [.str (sgw n), zB (inS n)] ∧ M = M') := by
  refine ACall.of Tryd.func98 rfl (n := 18) rfl rfl rfl ?_
  refine zg ?_
  refine zM (.str []) ?_
  refine zM (zB false) ?_
  refine zN ?_
  refine zg ?_
  refine zc [] Tryd.call85 (lsigs_any M) ?_
  rintro _ _ ⟨rfl, rfl⟩
  refine zT (v := .list true 9 (sigL.map AV.str)) rfl ?_
  refine zN ?_
  refine AWp.seq ?_
  refine zj 13 [(0, zI n), (2, .str []), (3, zB false), (4, .list true 9 (sigL.map AV.str))] [] M (bif (decide (n < 0)) then true else (decide (n ≥ (3 : Int)))) ?_ ?_
  · skip
    refine zM (zI n) ?_
    refine zr (zi (decide (n < 0))) ?_
    refine zM (zB (decide (n < 0))) ?_
    refine AOps.splitJ (t := 8) (b := decide (n < 0)) (x := true) (y := (decide (n ≥ (3 : Int)))) rfl (fun h1 => ?_) (fun h1 => ?_)
    · skip
      have h1' : n < 0 := (by have hh := of_decide_eq_true h1; omega)
      clear h1
      refine zs ?_
      refine zs ?_
      refine zs ?_
      refine zs ?_
      refine zr (zp true (zB true)) ?_
      exact AOps.nil rfl
    · skip
      have h1' : ¬ (n < 0) := (by have hh := of_decide_eq_false h1; omega)
      clear h1
      refine zM (zI n) ?_
      refine zM (.list false 9 (sigL.map AV.str)) ?_
      refine zr (zL (sigL.map AV.str) 3 Tryd.underlying23 rfl) ?_
      refine zr (zi (decide (n ≥ (3 : Int)))) ?_
      refine zr (zp false (zB (decide (n ≥ (3 : Int))))) ?_
      exact AOps.nil rfl
  refine zC (b := bif (decide (n < 0)) then true else (decide (n ≥ (3 : Int)))) rfl (fun h2 => ?_) (fun h2 => ?_)
  · skip
    have h2' : inS n = false := (inS_f h2)
    clear h2
    refine zg ?_
    refine zM (.str []) ?_
    refine zM (zB false) ?_
    refine zN ?_
    refine AWp.ret ?_
    exact ⟨.inl rfl, _, ResOf.two 2 3 (.str []) (zB false) rfl rfl (.inl rfl) (.inl rfl) (by decide), ⟨by rw [sgw_no (by assumption), (show inS n = false by assumption)], rfl⟩⟩
  · skip
    have h2' : 0 ≤ n ∧ n ≤ 2 ∧ inS n = true := (inS_t h2)
    clear h2
    refine AWp.skip ?_
    refine zg ?_
    refine zM (.list false 9 (sigL.map AV.str)) ?_
    refine zM (zI n) ?_
    refine zr (Reader.elemAddr (m := n.toNat) rfl Tryd.underlying23 sizeOf_9 rfl rfl (by omega) (e := .str (sigL.getD n.toNat [])) (strs_at (by first | omega | (show _ < 3; omega)))) ?_
    refine zr (zlE (.str (sigL.getD n.toNat [])) Tryd.underlying9 sizeOf_9) ?_
    refine zM (.str (sigL.getD n.toNat [])) ?_
    refine zM (zB true) ?_
    refine zN ?_
    refine AWp.ret ?_
    exact ⟨.inl rfl, _, ResOf.two 2 3 (.str (sigL.getD n.toNat [])) (zB true) rfl rfl (.inl rfl) (.inl rfl) (by decide), ⟨by rw [sgw_of (n := n) (by assumption), (show 0 ≤ n ∧ n ≤ 2 ∧ inS n = true by assumption).2.2], rfl⟩⟩

set_option maxRecDepth 20000 in
theorem counted_any (n : Int) (M : Nat → Option (List AV)) : ACall Tryd.prog 99 [zI n] M (fun r M' => r = zB (decide (n ≥ 0)) ∧ M = M') := by
  refine ACall.of Tryd.func99 rfl (n := 5) rfl rfl rfl ?_
  refine zg ?_
  refine zM (zB false) ?_
  refine zN ?_
  refine zg ?_
  refine zM (zI n) ?_
  refine zr (zi (decide (n ≥ 0))) ?_
  refine zM (zB (decide (n ≥ 0))) ?_
  refine zN ?_
  refine AWp.ret ?_
  exact ⟨.inl rfl, _, ResOf.one 2 (zB (decide (n ≥ 0))) rfl rfl, ⟨rfl, rfl⟩⟩

/-- A kind that is. -/
def KnownP (k : Int) : Prop := 1 ≤ k ∧ k ≤ 16
instance (k : Int) : Decidable (KnownP k) := by unfold KnownP; infer_instance
theorem known_b {k : Int} : (bif decide (k ≥ 1) then decide (k ≤ 16) else false) = decide (KnownP k) := by
  unfold KnownP
  by_cases h : k ≥ 1 <;> by_cases h2 : k ≤ 16 <;> simp [h, h2] <;> omega

set_option maxRecDepth 20000 in
theorem known_any (k : Int) (M : Nat → Option (List AV)) : ACall Tryd.prog 60 [zI k] M (fun r M' => r = zB (decide (KnownP k)) ∧ M = M') := by
  refine ACall.of Tryd.func60 rfl (n := 9) rfl rfl rfl ?_
  refine zg ?_
  refine zM (zB false) ?_
  refine zN ?_
  refine zj 2 [(0, zI k)] [] M (bif (decide (k ≥ 1)) then (decide (k ≤ 16)) else false) ?_ ?_
  · skip
    refine zM (zI k) ?_
    refine zr (zi (decide (k ≥ 1))) ?_
    refine zM (zB (decide (k ≥ 1))) ?_
    refine AOps.splitJ (t := 5) (b := decide (k ≥ 1)) (x := (decide (k ≤ 16))) (y := false) rfl (fun h1 => ?_) (fun h1 => ?_)
    · skip
      have h1' : k ≥ 1 := (by have hh := of_decide_eq_true h1; omega)
      clear h1
      refine zM (zI k) ?_
      refine zr (zi (decide (k ≤ 16))) ?_
      refine zr (zp true (zB (decide (k ≤ 16)))) ?_
      refine zM (zB (decide (k ≤ 16))) ?_
      exact AOps.nil rfl
    · skip
      have h1' : ¬ (k ≥ 1) := (by have hh := of_decide_eq_false h1; omega)
      clear h1
      refine zs ?_
      refine zs ?_
      refine zr (zp false (zB false)) ?_
      refine zM (zB false) ?_
      exact AOps.nil rfl
  refine AWp.ret ?_
  exact ⟨.inl rfl, _, ResOf.one 2 (zB (bif (decide (k ≥ 1)) then (decide (k ≤ 16)) else false)) rfl rfl, ⟨congrArg (fun b => AV.lit (.bool b)) (known_b), rfl⟩⟩

theorem vis_f {c : UInt8} (h : (bif decide ((c.toNat : Int) ≤ 32) then true else decide ((c.toNat : Int) > 126)) = true) : visB c = false := by
  unfold visB; rw [Bool.and_eq_false_iff, decide_eq_false_iff_not, decide_eq_false_iff_not]
  by_cases h0 : (c.toNat : Int) ≤ 32
  · exact .inl (by omega)
  · rw [decide_eq_false h0] at h; have := of_decide_eq_true h; exact .inr (by omega)
theorem vis_t {c : UInt8} (h : (bif decide ((c.toNat : Int) ≤ 32) then true else decide ((c.toNat : Int) > 126)) = false) : visB c = true := by
  by_cases h0 : (c.toNat : Int) ≤ 32
  · rw [decide_eq_true h0] at h; cases h
  · rw [decide_eq_false h0] at h; have := of_decide_eq_false h
    unfold visB; rw [decide_eq_true (by omega), decide_eq_true (by omega)]; rfl
theorem visr_f {c : UInt8} (h : (bif decide ((c.toNat : Int) < 33) then true else decide ((c.toNat : Int) > 126)) = true) : visB c = false := by
  unfold visB; rw [Bool.and_eq_false_iff, decide_eq_false_iff_not, decide_eq_false_iff_not]
  by_cases h0 : (c.toNat : Int) < 33
  · exact .inl (by omega)
  · rw [decide_eq_false h0] at h; have := of_decide_eq_true h; exact .inr (by omega)
theorem visr_t {c : UInt8} (h : (bif decide ((c.toNat : Int) < 33) then true else decide ((c.toNat : Int) > 126)) = false) : visB c = true := by
  by_cases h0 : (c.toNat : Int) < 33
  · rw [decide_eq_true h0] at h; cases h
  · rw [decide_eq_false h0] at h; have := of_decide_eq_false h
    unfold visB; rw [decide_eq_true (by omega), decide_eq_true (by omega)]; rfl
theorem nx_vis {s : List UInt8} {i : Nat} (hno : ∀ j, j < i → visB (s.getD j 0) = true) (h : visB (s.getD i 0) = true) : ∀ j, j < i + 1 → visB (s.getD j 0) = true := by
  intro j hj
  rcases Nat.lt_succ_iff_lt_or_eq.1 hj with h1 | rfl
  · exact hno j h1
  · exact h
theorem word_bad {s : List UInt8} {i : Nat} (hi : i < s.length) (h : visB (s.getD i 0) = false) : wordB s = false := by
  have : s.all visB = false := by
    rw [List.all_eq_false]
    refine ⟨s.getD i 0, ?_, by rw [h]; decide⟩
    rw [List.getD_eq_getElem?_getD, List.getElem?_eq_getElem hi]; exact List.getElem_mem hi
  unfold wordB; rw [this]; rfl
theorem word_good {s : List UInt8} {i : Nat} (hi : s.length ≤ i) (hno : ∀ j, j < i → visB (s.getD j 0) = true) : s.all visB = true := by
  rw [List.all_eq_true]
  intro x hx
  obtain ⟨j, hj, rfl⟩ := List.mem_iff_getElem.1 hx
  have := hno j (by omega)
  rwa [List.getD_eq_getElem?_getD, List.getElem?_eq_getElem hj] at this
theorem word_end {s : List UInt8} {i : Nat} (hi : s.length ≤ i) (hno : ∀ j, j < i → visB (s.getD j 0) = true) : (bif decide ((s.length : Int) ≥ 1) then (bif decide ((s.length : Int) ≤ 60) then ((s.getD 0 0).toNat : Int) != 35 else false) else false) = wordB s := by
  unfold wordB; rw [word_good hi hno]
  by_cases h1 : 1 ≤ s.length <;> by_cases h2 : s.length ≤ 60
  · rw [decide_eq_true (show (s.length : Int) ≥ 1 by omega), decide_eq_true (show (s.length : Int) ≤ 60 by omega), decide_eq_true h1, decide_eq_true h2]
    simp only [cond_true, Bool.true_and]
    rw [Bool.eq_iff_iff, bne_iff_ne, decide_eq_true_iff]; omega
  · rw [decide_eq_true (show (s.length : Int) ≥ 1 by omega), decide_eq_false (show ¬ (s.length : Int) ≤ 60 by omega), decide_eq_true h1, decide_eq_false h2]; rfl
  · rw [decide_eq_false (show ¬ (s.length : Int) ≥ 1 by omega), decide_eq_false h1]; rfl
  · rw [decide_eq_false (show ¬ (s.length : Int) ≥ 1 by omega), decide_eq_false h1]; rfl

set_option maxRecDepth 20000 in
theorem Word_any (t : List UInt8) (hl : t.length ≤ 4294967280) (M : Nat → Option (List AV)) : ACall Tryd.prog 100 [.str t] M (fun r M' => r = zB (wordB t) ∧ M = M') := by
  refine ACall.of Tryd.func100 rfl (n := 32) rfl rfl rfl ?_
  refine zg ?_
  refine zM (zB false) ?_
  refine zN ?_
  refine AWp.seq ?_
  refine zg ?_
  refine zM (.str t) ?_
  refine AOps.toBytes (D := .bool) trivial rfl (by decide) rfl Tryd.underlying9 Tryd.underlying31 Tryd.underlying5 rfl (sizeOf_5) (by first | omega | (simp; omega)) ?_
  refine zr (zL (byteAVs t) t.length Tryd.underlying31 (byteAVs_len _)) ?_
  refine zM (zI 0) ?_
  refine zN ?_
  refine AWp.block ?_
  refine AWp.loopE [0, 6, 7, 8] [] (fun m s => ∃ (i : Nat), m = t.length - i ∧ s = ⟨[(0, .str t), (6, .list false 5 (byteAVs t)), (7, zI (t.length : Int)), (8, zI (i : Int))], [], M⟩ ∧ (i ≤ t.length) ∧ (∀ j, j < i → visB (t.getD j 0) = true)) ?_ ?_
  · exact ⟨_, 0, rfl, rfl, Nat.zero_le _, fun j hj => by omega⟩
  · rintro _ _ ⟨i, rfl, rfl, hi, hno⟩
    refine zg ?_
    refine zr (zi (decide ((i : Int) < (t.length : Int)))) ?_
    refine zN ?_
    refine AWp.seq ?_
    refine zC (b := decide ((i : Int) < (t.length : Int))) rfl (fun h1 => ?_) (fun h1 => ?_)
    · skip
      have h1' : i < t.length := (by have hh := of_decide_eq_true h1; omega)
      clear h1
      refine AWp.skip ?_
      refine AWp.seq ?_
      refine AWp.block ?_
      refine zg ?_
      refine zr (zel i (.lit (.int .u8 ((t.getD i 0).toNat : Int))) Tryd.underlying31 sizeOf_5 (byteAVs_at (by first | omega | (simp; omega)))) ?_
      refine zr (zlE (.lit (.int .u8 ((t.getD i 0).toNat : Int))) Tryd.underlying5 sizeOf_5) ?_
      refine zM (.lit (.int .u8 ((t.getD i 0).toNat : Int))) ?_
      refine zN ?_
      refine zj 17 [(0, .str t), (6, .list false 5 (byteAVs t)), (7, zI (t.length : Int)), (8, zI (i : Int)), (9, zB (decide ((i : Int) < (t.length : Int)))), (4, .lit (.int .u8 ((t.getD i 0).toNat : Int)))] [] M (bif (decide (((t.getD i 0).toNat : Int) ≤ 32)) then true else (decide (((t.getD i 0).toNat : Int) > 126))) ?_ ?_
      · skip
        refine zM (.lit (.int .u8 ((t.getD i 0).toNat : Int))) ?_
        refine zr (zi (decide (((t.getD i 0).toNat : Int) ≤ 32))) ?_
        refine zM (zB (decide (((t.getD i 0).toNat : Int) ≤ 32))) ?_
        refine AOps.splitJ (t := 14) (b := decide (((t.getD i 0).toNat : Int) ≤ 32)) (x := true) (y := (decide (((t.getD i 0).toNat : Int) > 126))) rfl (fun h2 => ?_) (fun h2 => ?_)
        · skip
          have h2' : ((t.getD i 0).toNat) ≤ 32 := (by have hh := of_decide_eq_true h2; omega)
          clear h2
          refine zs ?_
          refine zs ?_
          refine zr (zp true (zB true)) ?_
          exact AOps.nil rfl
        · skip
          have h2' : ¬ (((t.getD i 0).toNat) ≤ 32) := (by have hh := of_decide_eq_false h2; omega)
          clear h2
          refine zM (.lit (.int .u8 ((t.getD i 0).toNat : Int))) ?_
          refine zr (zi (decide (((t.getD i 0).toNat : Int) > 126))) ?_
          refine zr (zp false (zB (decide (((t.getD i 0).toNat : Int) > 126)))) ?_
          exact AOps.nil rfl
      refine zC (b := bif (decide (((t.getD i 0).toNat : Int) ≤ 32)) then true else (decide (((t.getD i 0).toNat : Int) > 126))) rfl (fun h3 => ?_) (fun h3 => ?_)
      · skip
        have h3' : visB (t.getD i 0) = false := (vis_f h3)
        clear h3
        refine zg ?_
        refine zM (zB false) ?_
        refine zN ?_
        refine AWp.ret ?_
        exact ⟨.inl rfl, _, ResOf.one 2 (zB false) rfl rfl, ⟨congrArg (fun b => AV.lit (.bool b)) ((word_bad (by omega) (by assumption)).symm), rfl⟩⟩
      · skip
        have h3' : visB (t.getD i 0) = true := (vis_t h3)
        clear h3
        refine AWp.skip ?_
        refine AWp.region ?_
        refine zr (zw ((i : Int) + 1) ((i + 1 : Nat) : Int)) ?_
        refine zM (zI ((i + 1 : Nat) : Int)) ?_
        refine zN ?_
        exact ⟨_, by omega, i + 1, rfl, rfl, by omega, nx_vis hno (by assumption)⟩
    · skip
      have h1' : ¬ (i < t.length) := (by have hh := of_decide_eq_false h1; omega)
      clear h1
      refine AWp.exit ?_
      refine zj 2 [(0, .str t), (6, .list false 5 (byteAVs t)), (7, zI (t.length : Int)), (8, zI (i : Int)), (9, zB (decide ((i : Int) < (t.length : Int))))] [] M (bif (decide ((t.length : Int) ≥ 1)) then (bif (decide ((t.length : Int) ≤ 60)) then (((t.getD 0 0).toNat : Int) != 35) else false) else false) ?_ ?_
      · skip
        refine zM (.str t) ?_
        refine zr (zS t t.length Tryd.underlying9) ?_
        refine zr (zi (decide ((t.length : Int) ≥ 1))) ?_
        refine zM (zB (decide ((t.length : Int) ≥ 1))) ?_
        refine AOps.splitJ (t := 22) (b := decide ((t.length : Int) ≥ 1)) (x := (bif (decide ((t.length : Int) ≤ 60)) then (((t.getD 0 0).toNat : Int) != 35) else false)) (y := false) rfl (fun h4 => ?_) (fun h4 => ?_)
        · skip
          have h4' : t.length ≥ 1 := (by have hh := of_decide_eq_true h4; omega)
          clear h4
          refine zM (.str t) ?_
          refine zr (zS t t.length Tryd.underlying9) ?_
          refine zr (zi (decide ((t.length : Int) ≤ 60))) ?_
          refine zr (zp true (zB (decide ((t.length : Int) ≤ 60)))) ?_
          refine zM (zB (decide ((t.length : Int) ≤ 60))) ?_
          refine AOps.splitJ (t := 27) (b := decide ((t.length : Int) ≤ 60)) (x := (((t.getD 0 0).toNat : Int) != 35)) (y := false) rfl (fun h5 => ?_) (fun h5 => ?_)
          · skip
            have h5' : t.length ≤ 60 := (by have hh := of_decide_eq_true h5; omega)
            clear h5
            refine zM (.str t) ?_
            refine zr (Reader.byte (m := 0) (c := t.getD 0 0) rfl Tryd.underlying9 rfl rfl rfl (getD_some (by first | omega | (simp; omega)))) ?_
            refine zr (zi (((t.getD 0 0).toNat : Int) != 35)) ?_
            refine zr (zp true (zB (((t.getD 0 0).toNat : Int) != 35))) ?_
            refine zM (zB (((t.getD 0 0).toNat : Int) != 35)) ?_
            exact AOps.nil rfl
          · skip
            have h5' : ¬ (t.length ≤ 60) := (by have hh := of_decide_eq_false h5; omega)
            clear h5
            refine zs ?_
            refine zs ?_
            refine zs ?_
            refine zr (zp false (zB false)) ?_
            refine zM (zB false) ?_
            exact AOps.nil rfl
        · skip
          have h4' : ¬ (t.length ≥ 1) := (by have hh := of_decide_eq_false h4; omega)
          clear h4
          refine zs ?_
          refine zs ?_
          refine zs ?_
          refine zr (zp false (zB false)) ?_
          refine zM (zB false) ?_
          refine zs ?_
          refine zs ?_
          refine zs ?_
          refine zr (zp false (zB false)) ?_
          refine zM (zB false) ?_
          exact AOps.nil rfl
      refine AWp.ret ?_
      exact ⟨.inl rfl, _, ResOf.one 2 (zB (bif (decide ((t.length : Int) ≥ 1)) then (bif (decide ((t.length : Int) ≤ 60)) then (((t.getD 0 0).toNat : Int) != 35) else false) else false)) rfl rfl, ⟨congrArg (fun b => AV.lit (.bool b)) (word_end (by omega) hno), rfl⟩⟩

set_option maxRecDepth 20000 in
theorem lnum_ok (t : List UInt8) (hl : t.length ≤ 4294967280) (nz : Int) (hz : Lib.atoiAll t = .ok nz) (M : Nat → Option (List AV)) : ACall Tryd.prog 53 [.str t] M (fun r M' => r = zI (numL t) ∧ M = M') := by
  refine ACall.of Tryd.func53 rfl (n := 13) rfl rfl rfl ?_
  refine zg ?_
  refine zM (zI 0) ?_
  refine zN ?_
  refine zg ?_
  refine zM (.str t) ?_
  refine zc [.str t] Tryd.call84 (atoi_ok t hl nz hz M) ?_
  rintro _ _ ⟨rfl, rfl⟩
  refine zM (.tuple [zI nz, .lit .nilIface]) ?_
  refine zr (zx (zI nz)) ?_
  refine zr (zx (.lit .nilIface)) ?_
  refine zM (zI nz) ?_
  refine zM (.lit .nilIface) ?_
  refine zN ?_
  refine AWp.seq ?_
  refine zg ?_
  refine zM (.lit .nilIface) ?_
  refine zr (Reader.ifNil rfl Tryd.underlying116 (v := .nilIface) rfl (.inl ⟨rfl, rfl⟩) (.inr ⟨rfl, rfl⟩)) ?_
  refine zN ?_
  refine AWp.cond (b := false) rfl (fun hx => by cases hx) (fun hx => ?_)
  refine AWp.skip ?_
  refine zg ?_
  refine zM (zI nz) ?_
  refine zM (zI nz) ?_
  refine zN ?_
  refine AWp.ret ?_
  exact ⟨.inl rfl, _, ResOf.one 2 (zI nz) rfl rfl, ⟨congrArg (fun x : Int => AV.lit (.int .i64 x)) (numL_ok hz), rfl⟩⟩

set_option maxRecDepth 20000 in
theorem lnum_bad (t : List UInt8) (hl : t.length ≤ 4294967280) (hz : ∀ z, Lib.atoiAll t ≠ .ok z) (M : Nat → Option (List AV)) : ACall Tryd.prog 53 [.str t] M (fun r M' => r = zI (numL t) ∧ M = M') := by
  refine ACall.of Tryd.func53 rfl (n := 13) rfl rfl rfl ?_
  refine zg ?_
  refine zM (zI 0) ?_
  refine zN ?_
  refine zg ?_
  refine zM (.str t) ?_
  refine zc [.str t] Tryd.call84 (atoi_bad t hl hz M) ?_
  rintro _ _ ⟨⟨nz, te, pe, rfl⟩, rfl⟩
  refine zM (.tuple [zI nz, .lit (.iface te pe)]) ?_
  refine zr (zx (zI nz)) ?_
  refine zr (zx (.lit (.iface te pe))) ?_
  refine zM (zI nz) ?_
  refine zM (.lit (.iface te pe)) ?_
  refine zN ?_
  refine AWp.seq ?_
  refine zg ?_
  refine zM (.lit (.iface te pe)) ?_
  refine zr (Reader.ifNil rfl Tryd.underlying116 (v := (.iface te pe)) rfl (.inr ⟨⟨_, _, rfl⟩, rfl⟩) (.inr ⟨rfl, rfl⟩)) ?_
  refine zN ?_
  refine AWp.cond (b := true) rfl (fun hx => ?_) (fun hx => by cases hx)
  refine zg ?_
  refine zM (zI (-1)) ?_
  refine zN ?_
  refine AWp.ret ?_
  exact ⟨.inl rfl, _, ResOf.one 2 (zI (-1)) rfl rfl, ⟨congrArg (fun x : Int => AV.lit (.int .i64 x)) (numL_bad hz), rfl⟩⟩

theorem lnum_any (t : List UInt8) (hl : t.length ≤ 4294967280) (M : Nat → Option (List AV)) : ACall Tryd.prog 53 [.str t] M (fun r M' => r = zI (numL t) ∧ M = M') := by
  by_cases h : ∃ z, Lib.atoiAll t = .ok z
  · obtain ⟨z, hz⟩ := h
    exact lnum_ok t hl z hz M
  · exact lnum_bad t hl (fun z e => h ⟨z, e⟩) M

end Go.Proofs.YtlpihekflkjkfaaDoor
