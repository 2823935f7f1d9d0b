/- Cf3, Cf4, Cf5, CfQ. -/
import Derived.Test.YtmmfkpbkacfegaaGreatDoorM8
import Derived.Test.YtmmfkpbkacfegaaGreatDoorM3
import Derived.Test.YtmmfkpbkacfegaaGreatDoorM7
namespace Go.Proofs.YtmmfkpbkacfegaaGreatDoor
section
open Go.RowKit
/-- A key's numbers, if it is one. -/
def ptrsW (cid : Nat) (w : List UInt8) : List AV := if 0 ≤ kOf w then ptrs cid (kOf w) else []
theorem k_le (w : List UInt8) : kOf w ≤ 5 := by rcases k_cases w with ⟨h, _⟩ | ⟨h, _⟩ | ⟨h, _⟩ | ⟨h, _⟩ | ⟨h, _⟩ | ⟨h, _⟩ | ⟨h, _⟩ <;> omega
theorem ask_num {cid : Nat} {w : List UInt8} {T : List (List UInt8 × AV)} (hT : T.Perm (numS cid)) : (decide (0 ≤ kOf w) = true ∧ ∃ i, findS w T 0 = some (i, AV.list false 78 (ptrsW cid w))) ∨ (decide (0 ≤ kOf w) = false ∧ findS w T 0 = none ∧ ∀ (G : Gh) (w' : World), RelV Tryz.prog G w' (AV.list false 78 (ptrsW cid w)) (.slice none 0 0)) := by
  rcases num_all cid w with ⟨h, h2, h3⟩ | ⟨h, h2⟩
  · refine .inl ⟨decide_eq_true h, ?_⟩
    unfold ptrsW
    rw [if_pos h]
    exact findS_some (hT.mem_iff.2 h2) fun p hp => h3 p (hT.mem_iff.1 hp)
  · refine .inr ⟨decide_eq_false (by omega), findS_none fun p hp => h2 p (hT.mem_iff.1 hp), fun G w' => ?_⟩
    unfold ptrsW
    rw [if_neg (by omega)]
    exact .nil _ _
theorem fillW_any (M : Nat → Option (List AV)) (c : Cfg) (cid : Nat) (w : List UInt8) (hk : 0 ≤ kOf w) (l : List Field) (hlen : ∀ f ∈ l, f.text.length ≤ 4294967280) (hM : M cid = some (cells true c)) :
    ACall Tryz.prog 45 [.list false 78 (ptrsW cid w), .list false 50 (l.map encF)] M (fun r M' => ∃ e c', r = .lit (.int .i64 e) ∧ M' = setM M cid (cells true c') ∧ ((e = 0 ∧ FitsL (kOf w) l ∧ c' = setC c (kOf w) (l.map fun f => (qv f.text : Int))) ∨ (e = 2 ∧ ¬ FitsL (kOf w) l))) := by
  unfold ptrsW
  rw [if_pos hk]
  exact fill_any M c cid (kOf w) hk l hlen hM (k_le w)
/-- The words that were, as a map. -/
def seenS (sn : List (List UInt8)) : List (List UInt8 × AV) := sn.map fun w => (w, .lit (.int .i64 1))
theorem seenS_len (sn : List (List UInt8)) : (seenS sn).length = sn.length := List.length_map ..
theorem seen_snoc (sn : List (List UInt8)) (w : List UInt8) : seenS (sn ++ [w]) = seenS sn ++ [(w, .lit (.int .i64 1))] := by simp [seenS]
theorem fs_no {sn : List (List UInt8)} {w : List UInt8} (h : w ∉ sn) : findS w (seenS sn) 0 = none := findS_none fun p hp e => by
  obtain ⟨v, hv, rfl⟩ := List.mem_map.1 hp
  exact h (by rw [e]; exact hv)
theorem fs_yes {sn : List (List UInt8)} {w : List UInt8} (h : w ∈ sn) : ∃ i, findS w (seenS sn) 0 = some (i, .lit (.int .i64 1)) :=
  findS_some (List.mem_map.2 ⟨w, h, rfl⟩) fun p hp _ => by obtain ⟨v, _, rfl⟩ := List.mem_map.1 hp; rfl
theorem fs_snoc {sn : List (List UInt8)} {w : List UInt8} (h : w ∉ sn) : ∃ i, findS w (seenS (sn ++ [w])) 0 = some (i, .lit (.int .i64 1)) := fs_yes (by simp)
theorem findS_set {k : List UInt8} {v v' : AV} : ∀ {S : List (List UInt8 × AV)} {o i : Nat}, findS k S o = some (o + i, v) → findS k (S.set i (k, v')) o = some (o + i, v')
  | [], _, _, h => by cases h
  | p :: r, o, 0, h => by simp [findS]
  | p :: r, o, i + 1, h => by
    unfold findS at h
    split at h
    · injection h with h; injection h with h1; omega
    · rename_i hn
      have := findS_set (S := r) (o := o + 1) (i := i) (v' := v') (by rw [h]; congr 2; omega)
      show findS k (p :: r.set i (k, v')) o = _
      unfold findS
      rw [if_neg hn, this]; congr 2; omega
theorem fs_set {k : List UInt8} {v v' : AV} {S : List (List UInt8 × AV)} {i : Nat} (h : findS k S 0 = some (i, v)) : findS k (S.set i (k, v')) 0 = some (i, v') := by
  have := findS_set (S := S) (o := 0) (i := i) (v' := v') (by rw [Nat.zero_add]; exact h)
  rwa [Nat.zero_add] at this
theorem fld_mem {l : List Field} {i : Nat} (h : i < l.length) : l.getD i f0 ∈ l := by
  rw [List.getD_eq_getElem?_getD, List.getElem?_eq_getElem h]; exact List.getElem_mem h
theorem thr_t {l : List Field} (h : (bif (l.getD 0 f0).text == trL then ((l.length : Int) == 2) else false) = true) : IsThr (ftx l) := by
  rw [ftx_get] at h
  cases e : ((ftx l).getD 0 [] == trL) with
  | false => rw [e] at h; cases h
  | true => rw [e] at h; have h2 := eq_of_beq h; exact ⟨eq_of_beq e, by rw [ftx_len]; omega⟩
theorem thr_f {l : List Field} (h : (bif (l.getD 0 f0).text == trL then ((l.length : Int) == 2) else false) = false) : ¬ IsThr (ftx l) := by
  rintro ⟨h1, h2⟩
  rw [ftx_get, h1, beq_self_eq_true] at h
  rw [ftx_len] at h2
  have := beq_eq_false_iff_ne.1 h
  exact this (by omega)
theorem thr_2 {l : List Field} (h : IsThr (ftx l)) : 1 < l.length := by have := h.2; rw [ftx_len] at this; omega
theorem fits_iff {l : List Field} (hl : 0 < l.length) (hk : 0 ≤ kOf (l.getD 0 f0).text) : Fits (ftx l) ↔ FitsL (kOf (l.getD 0 f0).text) (l.drop 1) := by
  unfold Fits FitsL
  rw [← ftx_get, ftx_len, List.length_drop]
  have e : (∀ w ∈ (ftx l).drop 1, qe w = 0) ↔ ∀ f ∈ l.drop 1, qe f.text = 0 := by
    unfold ftx; rw [← List.map_drop]
    exact ⟨fun h f hf => h _ (List.mem_map.2 ⟨f, hf, rfl⟩), fun h w hw => by obtain ⟨f, hf, rfl⟩ := List.mem_map.1 hw; exact h f hf⟩
  rw [e]
  constructor
  · rintro ⟨_, h1, h2⟩; refine ⟨?_, h2⟩; split at h1 <;> rename_i hh <;> simp only [hh, if_true, if_false] <;> omega
  · rintro ⟨h1, h2⟩; refine ⟨hk, ?_, h2⟩; split at h1 <;> rename_i hh <;> simp only [hh, if_true, if_false] <;> omega
theorem vals_eq (l : List Field) : ((ftx l).drop 1).map (fun w => (qv w : Int)) = (l.drop 1).map fun f => (qv f.text : Int) := by
  unfold ftx; rw [← List.map_drop, List.map_map]; rfl
section
variable {c c1 : Cfg} {sn : List (List UInt8)} {l : List Field} {e1 : Int}
theorem cl_thr (h : IsThr (ftx l)) : errT (l.getD 1 f0).text = clE sn (ftx l) ∧ (errT (l.getD 1 f0).text = 0 → { c with thr := c.thr ++ [readT (l.getD 1 f0).text] } = clC c (ftx l) ∧ seenS sn = seenS (clS sn (ftx l))) := by
  unfold clE clC clS
  rw [if_pos h, if_pos h, if_pos h, ← ftx_get]
  exact ⟨rfl, fun _ => ⟨rfl, rfl⟩⟩
theorem cl_none (h : ¬ IsThr (ftx l)) (hk : ¬ 0 ≤ kOf (l.getD 0 f0).text) : (2 : Int) = clE sn (ftx l) ∧ ((2 : Int) = 0 → c1 = clC c (ftx l) ∧ seenS sn = seenS (clS sn (ftx l))) := by
  refine ⟨?_, fun h => by cases h⟩
  unfold clE
  rw [if_neg h, if_neg (fun hf => hk (by rw [ftx_get]; exact hf.1))]
theorem cl_bad (h : ¬ IsThr (ftx l)) (hk : 0 ≤ kOf (l.getD 0 f0).text) (he : e1 ≠ 0) (hl : 0 < l.length) (hsp : (e1 = 0 ∧ FitsL (kOf (l.getD 0 f0).text) (l.drop 1) ∧ c1 = setC c (kOf (l.getD 0 f0).text) ((l.drop 1).map fun f => (qv f.text : Int))) ∨ (e1 = 2 ∧ ¬ FitsL (kOf (l.getD 0 f0).text) (l.drop 1))) {S2 : List (List UInt8 × AV)} :
    e1 = clE sn (ftx l) ∧ (e1 = 0 → c1 = clC c (ftx l) ∧ S2 = seenS (clS sn (ftx l))) := by
  rcases hsp with ⟨h0, _⟩ | ⟨h2, hn⟩
  · exact absurd h0 he
  · refine ⟨?_, fun h => absurd h he⟩
    unfold clE
    rw [if_neg h, if_neg (fun hf => hn ((fits_iff hl hk).1 hf)), h2]
theorem cl_twice (h : ¬ IsThr (ftx l)) (hk : 0 ≤ kOf (l.getD 0 f0).text) (he : ¬ e1 ≠ 0) (hl : 0 < l.length) (hsp : (e1 = 0 ∧ FitsL (kOf (l.getD 0 f0).text) (l.drop 1) ∧ c1 = setC c (kOf (l.getD 0 f0).text) ((l.drop 1).map fun f => (qv f.text : Int))) ∨ (e1 = 2 ∧ ¬ FitsL (kOf (l.getD 0 f0).text) (l.drop 1))) (hws : (l.getD 0 f0).text ∈ sn) {S2 : List (List UInt8 × AV)} :
    (5 : Int) = clE sn (ftx l) ∧ ((5 : Int) = 0 → c1 = clC c (ftx l) ∧ S2 = seenS (clS sn (ftx l))) := by
  refine ⟨?_, fun h => by cases h⟩
  rcases hsp with ⟨_, hf, _⟩ | ⟨h2, _⟩
  · unfold clE
    rw [if_neg h, if_pos ((fits_iff hl hk).2 hf), ← ftx_get, if_pos hws]
  · omega
theorem cl_good (h : ¬ IsThr (ftx l)) (hk : 0 ≤ kOf (l.getD 0 f0).text) (he : ¬ e1 ≠ 0) (hl : 0 < l.length) (hsp : (e1 = 0 ∧ FitsL (kOf (l.getD 0 f0).text) (l.drop 1) ∧ c1 = setC c (kOf (l.getD 0 f0).text) ((l.drop 1).map fun f => (qv f.text : Int))) ∨ (e1 = 2 ∧ ¬ FitsL (kOf (l.getD 0 f0).text) (l.drop 1))) (hws : (l.getD 0 f0).text ∉ sn) :
    (0 : Int) = clE sn (ftx l) ∧ ((0 : Int) = 0 → c1 = clC c (ftx l) ∧ seenS (sn ++ [(l.getD 0 f0).text]) = seenS (clS sn (ftx l))) := by
  rcases hsp with ⟨_, hf, hc⟩ | ⟨h2, _⟩
  · refine ⟨?_, fun _ => ⟨?_, ?_⟩⟩
    · unfold clE
      rw [if_neg h, if_pos ((fits_iff hl hk).2 hf), ← ftx_get, if_neg hws]
    · unfold clC
      rw [if_neg h, ← ftx_get, vals_eq]; exact hc
    · unfold clS
      rw [if_neg h, ← ftx_get]
  · omega
end
section
variable {M : Nat → Option (List AV)} {a b n i : Nat} {A B A' B' T x : List AV}
theorem sub_o (hM : M a = some A) (hm : M b = some B) (hne : a ≠ b) (h : setM (setM M a A) b B i = some x) : M i = some x := by
  rw [setM_self hM, setM_self hm] at h; exact h
theorem sub_oc (_ : M a = some A) (hm : M b = some B) (hne : a ≠ b) (h : setM (setM M a A') b B i = some x) : setM M a A' i = some x := by
  rw [setM_self (by rw [setM_ne (Ne.symm hne)]; exact hm)] at h; exact h
theorem sub_nn (hn : M n = none) (h : M i = some x) : setM M n T i = some x := by
  rw [setM_ne (fun e => by subst e; rw [hn] at h; cases h)]; exact h
theorem sub_n (hM : M a = some A) (hm : M b = some B) (hne : a ≠ b) (_ : a ≠ n) (_ : b ≠ n) (hn : M n = none) (h : setM (setM M a A) b B i = some x) : setM M n T i = some x := sub_nn hn (sub_o hM hm hne h)
theorem sub_nc (hM : M a = some A) (hm : M b = some B) (hne : a ≠ b) (ha : a ≠ n) (_ : b ≠ n) (hn : M n = none) (h : setM (setM M a A') b B i = some x) : setM (setM M n T) a A' i = some x := by
  have h1 := sub_oc hM hm hne h
  by_cases e : i = a
  · subst e; rw [setM_get] at h1 ⊢; exact h1
  · rw [setM_ne e] at h1 ⊢; exact sub_nn hn h1
theorem sub_ncm (hM : M a = some A) (hm : M b = some B) (hne : a ≠ b) (ha : a ≠ n) (_ : b ≠ n) (hn : M n = none) (h : setM (setM M a A') b B' i = some x) : setM (setM (setM M n T) a A') b B' i = some x := by
  by_cases e : i = b
  · subst e; rw [setM_get] at h ⊢; exact h
  · rw [setM_ne e] at h ⊢
    by_cases e : i = a
    · subst e; rw [setM_get] at h ⊢; exact h
    · rw [setM_ne e] at h ⊢; exact sub_nn hn h
end

set_option maxRecDepth 20000 in
theorem line_any (M : Nat → Option (List AV)) (c : Cfg) (cid im : Nat) (sn : List (List UInt8)) (l : List Field) (hl0 : 0 < l.length) (hlen : ∀ f ∈ l, f.text.length ≤ 4294967280) (hth : c.thr.length ≤ 4294967280) (hne : cid ≠ im) (F : Cfg → List (List UInt8 × AV) → Nat → Option (List AV)) (hF : ∀ c2 S2, setM (setM M cid (cells true c2)) im (mapA S2) = F c2 S2) (hM : M cid = some (cells true c)) (hm : M im = some (mapA (seenS sn)))  : ACall Tryz.prog 20 [.gptr cid 0, .gmap im, .list false 50 (l.map encF)] M (fun r M' => ∃ e c2 S2, r = zI e ∧ M' = F c2 S2 ∧ (e = clE sn (ftx l) ∧ (e = 0 → c2 = clC c (ftx l) ∧ S2 = seenS (clS sn (ftx l))))) := by
  have hl0t := hlen (l.getD 0 f0) (fld_mem hl0)
  refine ACall.subM ?_
  refine ACall.of Tryz.func20 rfl (n := 67) rfl rfl rfl ?_
  refine zg ?_
  refine zM (zI 0) ?_
  refine zN ?_
  refine zg ?_
  refine zM (.list false 50 (l.map encF)) ?_
  refine zr (zel 0 (encF (l.getD 0 f0)) Tryz.underlying46 sizeOf_50 (getD_map (l := l) (j := 0) (by first | assumption | omega))) ?_
  refine zr (zfE Tryz.underlying50 sizeOf_9) ?_
  refine zr (zlE (.str ((l.getD 0 f0).text)) Tryz.underlying9 sizeOf_9) ?_
  refine zM (.str ((l.getD 0 f0).text)) ?_
  refine zN ?_
  refine AWp.seq ?_
  refine zj 23 [(0, .gptr cid 0), (1, .gmap im), (2, .list false 50 (l.map encF)), (6, zI 0), (7, .str ((l.getD 0 f0).text))] [] M (bif (((l.getD 0 f0).text) == [116, 104, 114, 101, 115, 104, 111, 108, 100]) then ((l.length : Int) == 2) else false) ?_ ?_
  · skip
    refine zM (.str ((l.getD 0 f0).text)) ?_
    refine zr (zt (((l.getD 0 f0).text) == [116, 104, 114, 101, 115, 104, 111, 108, 100])) ?_
    refine zM (zB (((l.getD 0 f0).text) == [116, 104, 114, 101, 115, 104, 111, 108, 100])) ?_
    refine AOps.splitJ (t := 19) (b := ((l.getD 0 f0).text) == [116, 104, 114, 101, 115, 104, 111, 108, 100]) (x := ((l.length : Int) == 2)) (y := false) rfl (fun h1 => ?_) (fun h1 => ?_)
    · skip
      have h1' : ((l.getD 0 f0).text) = [116, 104, 114, 101, 115, 104, 111, 108, 100] := (eq_of_beq h1)
      clear h1
      refine zM (.list false 50 (l.map encF)) ?_
      refine zr (zL (l.map encF) l.length Tryz.underlying46 (by simp)) ?_
      refine zr (zi ((l.length : Int) == 2)) ?_
      refine zr (zp true (zB ((l.length : Int) == 2))) ?_
      exact AOps.nil rfl
    · skip
      have h1' : ¬ (((l.getD 0 f0).text) = [116, 104, 114, 101, 115, 104, 111, 108, 100]) := (beq_eq_false_iff_ne.1 h1)
      clear h1
      refine zs ?_
      refine zs ?_
      refine zs ?_
      refine zr (zp false (zB false)) ?_
      exact AOps.nil rfl
  refine zC (b := bif (((l.getD 0 f0).text) == [116, 104, 114, 101, 115, 104, 111, 108, 100]) then ((l.length : Int) == 2) else false) rfl (fun h2 => ?_) (fun h2 => ?_)
  · skip
    have h2' : IsThr (ftx l) := (thr_t h2)
    clear h2
    have hl2 : 1 < l.length := thr_2 h2'
    have hl1t := hlen (l.getD 1 f0) (fld_mem hl2)
    refine zg ?_
    refine zM (.list false 50 (l.map encF)) ?_
    refine zr (zel 1 (encF (l.getD 1 f0)) Tryz.underlying46 sizeOf_50 (getD_map (l := l) (j := 1) (by first | assumption | omega))) ?_
    refine zr (zfE Tryz.underlying50 sizeOf_9) ?_
    refine zr (zlE (.str ((l.getD 1 f0).text)) Tryz.underlying9 sizeOf_9) ?_
    refine zc [.str ((l.getD 1 f0).text)] Tryz.call44 (TRead_any ((l.getD 1 f0).text) (by first | omega | (simp only [List.length_append, List.length_cons, List.length_nil]; omega)) M) ?_
    rintro _ _ ⟨rfl, rfl⟩
    refine zM (.tuple [encT (readT ((l.getD 1 f0).text)), zI (errT ((l.getD 1 f0).text))]) ?_
    refine zr (zx (encT (readT ((l.getD 1 f0).text)))) ?_
    refine zr (zx (zI (errT ((l.getD 1 f0).text)))) ?_
    refine zal [] zero_40 [zI 0, zI 0, zI 0, zB false, zI 0] ?_
    refine zst sizeOf_40 (encT (readT ((l.getD 1 f0).text))) ?_
    refine zM (zI (errT ((l.getD 1 f0).text))) ?_
    refine zN ?_
    refine AWp.seq (AWp.anyR [23, 0, 1, 2, 6, 7, 8, 9] [8] (⟨[(23, zB (bif (((l.getD 0 f0).text) == [116, 104, 114, 101, 115, 104, 111, 108, 100]) then ((l.length : Int) == 2) else false)), (0, .gptr cid 0), (1, .gmap im), (2, .list false 50 (l.map encF)), (6, zI 0), (7, .str ((l.getD 0 f0).text)), (8, .lptr 8 0), (9, zI (errT ((l.getD 1 f0).text)))], [(8, [zI ((readT ((l.getD 1 f0).text)).sig), zI ((readT ((l.getD 1 f0).text)).pct), zI ((readT ((l.getD 1 f0).text)).amt), zB ((readT ((l.getD 1 f0).text)).soft), zI ((readT ((l.getD 1 f0).text)).gr)])], (setM M cid [zI c.c0, zI c.c1, zI c.c2, zI c.a0, zI c.a1, zI c.a2, .list true 40 ((c.thr ++ [readT (l.getD 1 f0).text]).map encT), zI c.per, zI c.ret, zI c.age, zI c.ded])⟩) (by kernel_rfl) ?_ ?_)
    · skip
      skip
      refine SAny.share 4 #[true, true, true, true, true, true, true, false, false, false, false] (⟨[(23, zB (bif (((l.getD 0 f0).text) == [116, 104, 114, 101, 115, 104, 111, 108, 100]) then ((l.length : Int) == 2) else false)), (0, .gptr cid 0), (1, .gmap im), (2, .list false 50 (l.map encF)), (6, zI 0), (7, .str ((l.getD 0 f0).text)), (25, .list false 50 (l.map encF)), (26, .eptr (encF (l.getD 1 f0)) 0), (27, .eptr (encF (l.getD 1 f0)) 0), (28, .str ((l.getD 1 f0).text)), (29, .tuple [encT (readT ((l.getD 1 f0).text)), zI (errT ((l.getD 1 f0).text))]), (24, .tuple [encT (readT ((l.getD 1 f0).text)), zI (errT ((l.getD 1 f0).text))]), (30, encT (readT ((l.getD 1 f0).text))), (31, zI (errT ((l.getD 1 f0).text))), (8, .lptr 8 0), (9, zI (errT ((l.getD 1 f0).text))), (32, .gptr cid 0), (33, .gptr cid 0), (37, .agg [zI ((readT ((l.getD 1 f0).text)).sig), zI ((readT ((l.getD 1 f0).text)).pct), zI ((readT ((l.getD 1 f0).text)).amt), zB ((readT ((l.getD 1 f0).text)).soft), zI ((readT ((l.getD 1 f0).text)).gr)]), (38, .list true 40 [.agg [zI ((readT ((l.getD 1 f0).text)).sig), zI ((readT ((l.getD 1 f0).text)).pct), zI ((readT ((l.getD 1 f0).text)).amt), zB ((readT ((l.getD 1 f0).text)).soft), zI ((readT ((l.getD 1 f0).text)).gr)]]), (34, .gptr cid 0), (35, .gptr cid 6), (36, .list true 40 (c.thr.map encT))], [(8, [zI ((readT ((l.getD 1 f0).text)).sig), zI ((readT ((l.getD 1 f0).text)).pct), zI ((readT ((l.getD 1 f0).text)).amt), zB ((readT ((l.getD 1 f0).text)).soft), zI ((readT ((l.getD 1 f0).text)).gr)])], (setM M cid [zI c.c0, zI c.c1, zI c.c2, zI c.a0, zI c.a1, zI c.a2, .list false 40 (c.thr.map encT), zI c.per, zI c.ret, zI c.age, zI c.ded])⟩) ?_ (fun sh0 => ?_)
      · skip
        refine zq [7] ⟨⟨_, rfl, ?_⟩, trivial⟩
        · skip
          refine zap (m1 := c.thr.length) (m2 := 1) 40 (c.thr.map encT) [.agg [zI ((readT ((l.getD 1 f0).text)).sig), zI ((readT ((l.getD 1 f0).text)).pct), zI ((readT ((l.getD 1 f0).text)).amt), zB ((readT ((l.getD 1 f0).text)).soft), zI ((readT ((l.getD 1 f0).text)).gr)]] ((c.thr ++ [readT (l.getD 1 f0).text]).map encT) Tryz.underlying25 Tryz.underlying25 Tryz.i40 (by simp) rfl (by rw [List.map_append]; rfl) ?_
          refine zN ?_
          refine zq [8] ⟨⟨_, rfl, ?_⟩, trivial⟩
          · skip
            refine zr (znc (.gptr cid 0)) ?_
            refine zN ?_
            refine zk 9 rfl (PReader.fieldG rfl ⟨_, _, Tryz.underlying27, rfl, rfl, rfl, sizeOf_25⟩ (by decide) rfl) ?_
            refine zq [10] ⟨⟨_, rfl, ?_⟩, trivial⟩
            · skip
              refine AOps.storeOwn trivial rfl rfl rfl setM_get sizeOf_25 rfl (Nat.le_of_ble_eq_true rfl) setM_setM ?_
              refine zN ?_
              exact SAny.done (by kernel_rfl) rfl
      refine SAny.share 5 #[true, true, true, true, false, true, true, false, false, false, false] (⟨[(23, zB (bif (((l.getD 0 f0).text) == [116, 104, 114, 101, 115, 104, 111, 108, 100]) then ((l.length : Int) == 2) else false)), (0, .gptr cid 0), (1, .gmap im), (2, .list false 50 (l.map encF)), (6, zI 0), (7, .str ((l.getD 0 f0).text)), (25, .list false 50 (l.map encF)), (26, .eptr (encF (l.getD 1 f0)) 0), (27, .eptr (encF (l.getD 1 f0)) 0), (28, .str ((l.getD 1 f0).text)), (29, .tuple [encT (readT ((l.getD 1 f0).text)), zI (errT ((l.getD 1 f0).text))]), (24, .tuple [encT (readT ((l.getD 1 f0).text)), zI (errT ((l.getD 1 f0).text))]), (30, encT (readT ((l.getD 1 f0).text))), (31, zI (errT ((l.getD 1 f0).text))), (8, .lptr 8 0), (9, zI (errT ((l.getD 1 f0).text))), (32, .gptr cid 0), (33, .gptr cid 0), (37, .agg [zI ((readT ((l.getD 1 f0).text)).sig), zI ((readT ((l.getD 1 f0).text)).pct), zI ((readT ((l.getD 1 f0).text)).amt), zB ((readT ((l.getD 1 f0).text)).soft), zI ((readT ((l.getD 1 f0).text)).gr)]), (38, .list true 40 [.agg [zI ((readT ((l.getD 1 f0).text)).sig), zI ((readT ((l.getD 1 f0).text)).pct), zI ((readT ((l.getD 1 f0).text)).amt), zB ((readT ((l.getD 1 f0).text)).soft), zI ((readT ((l.getD 1 f0).text)).gr)]]), (34, .gptr cid 0), (35, .gptr cid 6)], [(8, [zI ((readT ((l.getD 1 f0).text)).sig), zI ((readT ((l.getD 1 f0).text)).pct), zI ((readT ((l.getD 1 f0).text)).amt), zB ((readT ((l.getD 1 f0).text)).soft), zI ((readT ((l.getD 1 f0).text)).gr)])], M⟩) ?_ (fun sh1 => ?_)
      · skip
        refine zq [4] ⟨⟨_, rfl, ?_⟩, trivial⟩
        · skip
          refine AOps.grabG trivial rfl (by decide) rfl Tryz.underlying25 rfl hM rfl rfl rfl ?_
          refine zN ?_
          exact SAny.same [23, 0, 1, 2, 6, 7, 25, 26, 27, 28, 29, 24, 30, 31, 8, 9, 32, 33, 37, 38, 34, 35, 36] [8] sh0 (by kernel_rfl) rfl
      refine SAny.share 5 #[true, true, true, true, true, true, false, false, false, false, false] (⟨[(23, zB (bif (((l.getD 0 f0).text) == [116, 104, 114, 101, 115, 104, 111, 108, 100]) then ((l.length : Int) == 2) else false)), (0, .gptr cid 0), (1, .gmap im), (2, .list false 50 (l.map encF)), (6, zI 0), (7, .str ((l.getD 0 f0).text)), (25, .list false 50 (l.map encF)), (26, .eptr (encF (l.getD 1 f0)) 0), (27, .eptr (encF (l.getD 1 f0)) 0), (28, .str ((l.getD 1 f0).text)), (29, .tuple [encT (readT ((l.getD 1 f0).text)), zI (errT ((l.getD 1 f0).text))]), (24, .tuple [encT (readT ((l.getD 1 f0).text)), zI (errT ((l.getD 1 f0).text))]), (30, encT (readT ((l.getD 1 f0).text))), (31, zI (errT ((l.getD 1 f0).text))), (8, .lptr 8 0), (9, zI (errT ((l.getD 1 f0).text))), (32, .gptr cid 0), (33, .gptr cid 0), (37, .agg [zI ((readT ((l.getD 1 f0).text)).sig), zI ((readT ((l.getD 1 f0).text)).pct), zI ((readT ((l.getD 1 f0).text)).amt), zB ((readT ((l.getD 1 f0).text)).soft), zI ((readT ((l.getD 1 f0).text)).gr)]), (34, .gptr cid 0), (35, .gptr cid 6), (36, .list true 40 (c.thr.map encT))], [(8, [zI ((readT ((l.getD 1 f0).text)).sig), zI ((readT ((l.getD 1 f0).text)).pct), zI ((readT ((l.getD 1 f0).text)).amt), zB ((readT ((l.getD 1 f0).text)).soft), zI ((readT ((l.getD 1 f0).text)).gr)])], (setM M cid [zI c.c0, zI c.c1, zI c.c2, zI c.a0, zI c.a1, zI c.a2, .list false 40 (c.thr.map encT), zI c.per, zI c.ret, zI c.age, zI c.ded])⟩) ?_ (fun sh2 => ?_)
      · skip
        refine zq [6] ⟨⟨_, rfl, ?_⟩, trivial⟩
        · skip
          refine zbS [] [.agg [zI ((readT ((l.getD 1 f0).text)).sig), zI ((readT ((l.getD 1 f0).text)).pct), zI ((readT ((l.getD 1 f0).text)).amt), zB ((readT ((l.getD 1 f0).text)).soft), zI ((readT ((l.getD 1 f0).text)).gr)]] Tryz.underlying25 Tryz.i40 ?_
          refine zN ?_
          exact SAny.same [23, 0, 1, 2, 6, 7, 25, 26, 27, 28, 29, 24, 30, 31, 8, 9, 32, 33, 37, 38, 34, 35, 36] [8] sh0 (by kernel_rfl) rfl
      refine SAny.share 6 #[true, true, true, true, false, true, false, false, false, false, false] (⟨[(23, zB (bif (((l.getD 0 f0).text) == [116, 104, 114, 101, 115, 104, 111, 108, 100]) then ((l.length : Int) == 2) else false)), (0, .gptr cid 0), (1, .gmap im), (2, .list false 50 (l.map encF)), (6, zI 0), (7, .str ((l.getD 0 f0).text)), (25, .list false 50 (l.map encF)), (26, .eptr (encF (l.getD 1 f0)) 0), (27, .eptr (encF (l.getD 1 f0)) 0), (28, .str ((l.getD 1 f0).text)), (29, .tuple [encT (readT ((l.getD 1 f0).text)), zI (errT ((l.getD 1 f0).text))]), (24, .tuple [encT (readT ((l.getD 1 f0).text)), zI (errT ((l.getD 1 f0).text))]), (30, encT (readT ((l.getD 1 f0).text))), (31, zI (errT ((l.getD 1 f0).text))), (8, .lptr 8 0), (9, zI (errT ((l.getD 1 f0).text))), (32, .gptr cid 0), (33, .gptr cid 0), (37, .agg [zI ((readT ((l.getD 1 f0).text)).sig), zI ((readT ((l.getD 1 f0).text)).pct), zI ((readT ((l.getD 1 f0).text)).amt), zB ((readT ((l.getD 1 f0).text)).soft), zI ((readT ((l.getD 1 f0).text)).gr)]), (34, .gptr cid 0), (35, .gptr cid 6)], [(8, [zI ((readT ((l.getD 1 f0).text)).sig), zI ((readT ((l.getD 1 f0).text)).pct), zI ((readT ((l.getD 1 f0).text)).amt), zB ((readT ((l.getD 1 f0).text)).soft), zI ((readT ((l.getD 1 f0).text)).gr)])], M⟩) ?_ (fun sh3 => ?_)
      · skip
        refine zq [4, 6] ⟨⟨_, rfl, ?_⟩, ⟨_, rfl, ?_⟩, trivial⟩
        · skip
          refine AOps.grabG trivial rfl (by decide) rfl Tryz.underlying25 rfl hM rfl rfl rfl ?_
          refine zN ?_
          exact SAny.same [23, 0, 1, 2, 6, 7, 25, 26, 27, 28, 29, 24, 30, 31, 8, 9, 32, 33, 37, 34, 35, 36] [8] sh2 (by kernel_rfl) rfl
        · skip
          refine zbS [] [.agg [zI ((readT ((l.getD 1 f0).text)).sig), zI ((readT ((l.getD 1 f0).text)).pct), zI ((readT ((l.getD 1 f0).text)).amt), zB ((readT ((l.getD 1 f0).text)).soft), zI ((readT ((l.getD 1 f0).text)).gr)]] Tryz.underlying25 Tryz.i40 ?_
          refine zN ?_
          exact SAny.same [23, 0, 1, 2, 6, 7, 25, 26, 27, 28, 29, 24, 30, 31, 8, 9, 32, 33, 37, 38, 34, 35] [8] sh1 (by kernel_rfl) rfl
      refine zkm 0 (.gptr cid 0) ?_
      refine zkm 1 (.gptr cid 0) ?_
      refine zq [2, 5] ⟨⟨_, rfl, ?_⟩, ⟨_, rfl, ?_⟩, trivial⟩
      · skip
        refine zr (znc (.gptr cid 0)) ?_
        refine zN ?_
        refine zk 3 rfl (PReader.fieldG rfl ⟨_, _, Tryz.underlying27, rfl, rfl, rfl, sizeOf_25⟩ (by decide) rfl) ?_
        refine zq [4, 5] ⟨⟨_, rfl, ?_⟩, ⟨_, rfl, ?_⟩, trivial⟩
        · skip
          refine AOps.grabG trivial rfl (by decide) rfl Tryz.underlying25 rfl hM rfl rfl rfl ?_
          refine zN ?_
          refine zq [5] ⟨⟨_, rfl, ?_⟩, trivial⟩
          · skip
            refine zr (zlL (.agg [zI ((readT ((l.getD 1 f0).text)).sig), zI ((readT ((l.getD 1 f0).text)).pct), zI ((readT ((l.getD 1 f0).text)).amt), zB ((readT ((l.getD 1 f0).text)).soft), zI ((readT ((l.getD 1 f0).text)).gr)]) Tryz.underlying40 sizeOf_40) ?_
            refine zN ?_
            exact SAny.same [23, 0, 1, 2, 6, 7, 25, 26, 27, 28, 29, 24, 30, 31, 8, 9, 32, 33, 37, 34, 35, 36] [8] sh2 (by kernel_rfl) rfl
        · skip
          refine zr (zlL (.agg [zI ((readT ((l.getD 1 f0).text)).sig), zI ((readT ((l.getD 1 f0).text)).pct), zI ((readT ((l.getD 1 f0).text)).amt), zB ((readT ((l.getD 1 f0).text)).soft), zI ((readT ((l.getD 1 f0).text)).gr)]) Tryz.underlying40 sizeOf_40) ?_
          refine zN ?_
          exact SAny.same [23, 0, 1, 2, 6, 7, 25, 26, 27, 28, 29, 24, 30, 31, 8, 9, 32, 33, 37, 34, 35] [8] sh3 (by kernel_rfl) rfl
      · skip
        refine zr (zlL (.agg [zI ((readT ((l.getD 1 f0).text)).sig), zI ((readT ((l.getD 1 f0).text)).pct), zI ((readT ((l.getD 1 f0).text)).amt), zB ((readT ((l.getD 1 f0).text)).soft), zI ((readT ((l.getD 1 f0).text)).gr)]) Tryz.underlying40 sizeOf_40) ?_
        refine zN ?_
        refine zq [2, 6] ⟨⟨_, rfl, ?_⟩, ⟨_, rfl, ?_⟩, trivial⟩
        · skip
          refine zr (znc (.gptr cid 0)) ?_
          refine zN ?_
          refine zk 3 rfl (PReader.fieldG rfl ⟨_, _, Tryz.underlying27, rfl, rfl, rfl, sizeOf_25⟩ (by decide) rfl) ?_
          exact SAny.same [23, 0, 1, 2, 6, 7, 25, 26, 27, 28, 29, 24, 30, 31, 8, 9, 32, 33, 37, 34, 35] [8] sh3 (by kernel_rfl) rfl
        · skip
          refine zbS [] [.agg [zI ((readT ((l.getD 1 f0).text)).sig), zI ((readT ((l.getD 1 f0).text)).pct), zI ((readT ((l.getD 1 f0).text)).amt), zB ((readT ((l.getD 1 f0).text)).soft), zI ((readT ((l.getD 1 f0).text)).gr)]] Tryz.underlying25 Tryz.i40 ?_
          refine zN ?_
          refine zq [2] ⟨⟨_, rfl, ?_⟩, trivial⟩
          · skip
            refine zr (znc (.gptr cid 0)) ?_
            refine zN ?_
            refine zk 3 rfl (PReader.fieldG rfl ⟨_, _, Tryz.underlying27, rfl, rfl, rfl, sizeOf_25⟩ (by decide) rfl) ?_
            exact SAny.same [23, 0, 1, 2, 6, 7, 25, 26, 27, 28, 29, 24, 30, 31, 8, 9, 32, 33, 37, 38, 34, 35] [8] sh1 (by kernel_rfl) rfl
    refine zg ?_
    refine zM (zI (errT ((l.getD 1 f0).text))) ?_
    refine zM (zI (errT ((l.getD 1 f0).text))) ?_
    refine zN ?_
    refine AWp.ret ?_
    exact ⟨.inl rfl, _, ResOf.one 6 (zI (errT ((l.getD 1 f0).text))) rfl rfl, ⟨_, ⟨_, { c with thr := c.thr ++ [readT (l.getD 1 f0).text] }, (seenS sn), rfl, hF _ _, (cl_thr (by assumption))⟩, (fun i x h => sub_oc hM hm hne h)⟩⟩
  · skip
    have h2' : ¬ IsThr (ftx l) := (thr_f h2)
    clear h2
    refine AWp.skip ?_
    refine zg ?_
    refine zM (.gptr cid 0) ?_
    refine zc [.gptr cid 0] Tryz.call21 (numbers_any cid M) ?_
    rintro _ _ ⟨id1, T1, rfl, hid1n, hT1, rfl⟩
    have hcidid1 : cid ≠ id1 := fun e => by subst e; have hq := (Eq.symm hM).trans hid1n; cases hq
    have himid1 : im ≠ id1 := fun e => by subst e; have hq := (Eq.symm hm).trans hid1n; cases hq
    refine zM (.str ((l.getD 0 f0).text)) ?_
    refine zr (Reader.mapAsk (.list false 78 (ptrsW cid ((l.getD 0 f0).text))) (decide (0 ≤ kOf ((l.getD 0 f0).text))) Tryz.underlying51 Tryz.underlying9 zero_75 setM_get (ask_num hT1) rfl) ?_
    refine zM (.tuple [.list false 78 (ptrsW cid ((l.getD 0 f0).text)), zB (decide (0 ≤ kOf ((l.getD 0 f0).text)))]) ?_
    refine zr (zx (.list false 78 (ptrsW cid ((l.getD 0 f0).text)))) ?_
    refine zr (zx (zB (decide (0 ≤ kOf ((l.getD 0 f0).text))))) ?_
    refine zM (.list false 78 (ptrsW cid ((l.getD 0 f0).text))) ?_
    refine zM (zB (decide (0 ≤ kOf ((l.getD 0 f0).text)))) ?_
    refine zN ?_
    refine AWp.seq ?_
    refine zg ?_
    refine zM (zB (decide (0 ≤ kOf ((l.getD 0 f0).text)))) ?_
    refine zr (zn (decide (0 ≤ kOf ((l.getD 0 f0).text)))) ?_
    refine zN ?_
    refine zC (b := !(decide (0 ≤ kOf ((l.getD 0 f0).text)))) rfl (fun h3 => ?_) (fun h3 => ?_)
    · skip
      have h3' : ¬ 0 ≤ kOf ((l.getD 0 f0).text) := (of_decide_eq_false (bnot_t h3))
      clear h3
      refine zg ?_
      refine zM (zI 2) ?_
      refine zN ?_
      refine AWp.ret ?_
      exact ⟨.inl rfl, _, ResOf.one 6 (zI 2) rfl rfl, ⟨_, ⟨_, c, (seenS sn), rfl, hF _ _, (cl_none (by assumption) (by assumption))⟩, (fun i x h => sub_n hM hm hne hcidid1 himid1 hid1n h)⟩⟩
    · skip
      have h3' : 0 ≤ kOf ((l.getD 0 f0).text) := (of_decide_eq_true (bnot_f h3))
      clear h3
      skip
      refine AWp.skip ?_
      refine AWp.seq ?_
      refine zg ?_
      refine zM (.list false 78 (ptrsW cid ((l.getD 0 f0).text))) ?_
      refine zM (.list false 50 (l.map encF)) ?_
      refine zr (Reader.piece (xs := (l.map encF)) (i := 1) (j := l.length) rfl Tryz.underlying46 sizeOf_50 rfl ⟨_, _, rfl, rfl⟩ (by rw [List.length_map]; rfl) (by omega) (by rw [List.length_map]; omega) (ys := ((l.drop 1).map encF)) (by rw [List.take_of_length_le (by simp), List.map_drop])) ?_
      refine zc [.list false 78 (ptrsW cid ((l.getD 0 f0).text)), .list false 50 ((l.drop 1).map encF)] Tryz.call45 (fillW_any (setM M id1 (mapA T1)) c cid ((l.getD 0 f0).text) (by assumption) (l.drop 1) (fun f hf => hlen f (List.mem_of_mem_drop hf)) ((setM_ne (by first | assumption | exact Ne.symm (by assumption))).trans hM)) ?_
      rintro _ _ ⟨e1, c1, rfl, rfl, hsp⟩
      refine zM (zI e1) ?_
      refine zN ?_
      refine zg ?_
      refine zM (zI e1) ?_
      refine zr (zi (e1 != 0)) ?_
      refine zN ?_
      refine zC (b := e1 != 0) rfl (fun h4 => ?_) (fun h4 => ?_)
      · skip
        have h4' : e1 ≠ 0 := (by have hh := bne_iff_ne.1 h4; omega)
        clear h4
        refine zg ?_
        refine zM (zI e1) ?_
        refine zM (zI e1) ?_
        refine zN ?_
        refine AWp.ret ?_
        exact ⟨.inl rfl, _, ResOf.one 6 (zI e1) rfl rfl, ⟨_, ⟨_, c1, (seenS sn), rfl, hF _ _, (cl_bad (by assumption) (by assumption) (by assumption) hl0 hsp)⟩, (fun i x h => sub_nc hM hm hne hcidid1 himid1 hid1n h)⟩⟩
      · skip
        have h4' : ¬ (e1 ≠ 0) := (by have hh := bne_eq_false_iff_eq.1 h4; omega)
        clear h4
        refine AWp.skip ?_
        by_cases hws : (l.getD 0 f0).text ∈ sn
        · skip
          obtain ⟨i0, hfi⟩ := fs_yes hws
          refine zg ?_
          refine zM (.gmap im) ?_
          refine zM (.str ((l.getD 0 f0).text)) ?_
          refine zr (Reader.mapVal (zI 1) Tryz.underlying45 Tryz.underlying9 zero_3 ((setM_ne (by first | assumption | exact Ne.symm (by assumption))).trans ((setM_ne (by first | assumption | exact Ne.symm (by assumption))).trans hm)) (.inl ⟨_, hfi⟩) rfl) ?_
          refine zr (zd (1 + 1) 2) ?_
          refine AOps.mapPut (v := zI 2) Tryz.underlying45 Tryz.underlying9 ((setM_ne (by first | assumption | exact Ne.symm (by assumption))).trans ((setM_ne (by first | assumption | exact Ne.symm (by assumption))).trans hm)) hfi rfl ?_ rfl
          refine zN ?_
          refine AWp.seq ?_
          refine zg ?_
          refine zM (.gmap im) ?_
          refine zM (.str ((l.getD 0 f0).text)) ?_
          refine zr (Reader.mapVal (zI 2) Tryz.underlying45 Tryz.underlying9 zero_3 setM_get (.inl ⟨_, fs_set hfi⟩) rfl) ?_
          refine zr (zi true) ?_
          refine zN ?_
          refine AWp.cond (b := true) rfl (fun hx => ?_) (fun hx => by cases hx)
          refine zg ?_
          refine zM (zI 5) ?_
          refine zN ?_
          refine AWp.ret ?_
          exact ⟨.inl rfl, _, ResOf.one 6 (zI 5) rfl rfl, ⟨_, ⟨_, c1, ((seenS sn).set i0 ((l.getD 0 f0).text, zI 2)), rfl, hF _ _, (cl_twice (by assumption) (by assumption) (by assumption) hl0 hsp hws)⟩, (fun i x h => sub_ncm hM hm hne hcidid1 himid1 hid1n h)⟩⟩
        · skip
          refine zg ?_
          refine zM (.gmap im) ?_
          refine zM (.str ((l.getD 0 f0).text)) ?_
          refine zr (Reader.mapVal (zI 0) Tryz.underlying45 Tryz.underlying9 zero_3 ((setM_ne (by first | assumption | exact Ne.symm (by assumption))).trans ((setM_ne (by first | assumption | exact Ne.symm (by assumption))).trans hm)) (.inr ⟨fs_no hws, fun _ _ => RelV.lit _⟩) rfl) ?_
          refine zr (zd (0 + 1) 1) ?_
          refine AOps.mapNew (S := seenS sn) (k := (l.getD 0 f0).text) (v := zI 1) trivial rfl (.inl rfl) Tryz.underlying45 Tryz.underlying9 rfl ((setM_ne (by first | assumption | exact Ne.symm (by assumption))).trans ((setM_ne (by first | assumption | exact Ne.symm (by assumption))).trans hm)) rfl (.inl ⟨rfl, rfl⟩) rfl rfl (fs_no hws) (by first | (rw [← seen_snoc]; done) | (rw [← seen_snoc]; exact rfl)) ?_
          refine zN ?_
          refine AWp.seq ?_
          refine zg ?_
          refine zM (.gmap im) ?_
          refine zM (.str ((l.getD 0 f0).text)) ?_
          refine zr (Reader.mapVal (zI 1) Tryz.underlying45 Tryz.underlying9 zero_3 setM_get (.inl (fs_snoc hws)) rfl) ?_
          refine zr (zi false) ?_
          refine zN ?_
          refine AWp.cond (b := false) rfl (fun hx => by cases hx) (fun hx => ?_)
          refine AWp.skip ?_
          refine zg ?_
          refine zM (zI 0) ?_
          refine zN ?_
          refine AWp.ret ?_
          exact ⟨.inl rfl, _, ResOf.one 6 (zI 0) rfl rfl, ⟨_, ⟨_, c1, (seenS (sn ++ [(l.getD 0 f0).text])), rfl, hF _ _, (cl_good (by assumption) (by assumption) (by assumption) hl0 hsp hws)⟩, (fun i x h => sub_ncm hM hm hne hcidid1 himid1 hid1n h)⟩⟩
end
section
open Go.RowKit

theorem lexFrom_small (ls : List (List UInt8)) : ∀ n, (lexFrom n ls).length ≤ ls.length := by
  induction ls with
  | nil => intro n; exact Nat.zero_le _
  | cons s r ih =>
    intro n
    have := ih (n + 1)
    rw [lexFrom]
    split <;> simp <;> omega
theorem scan_small : ∀ (s : List UInt8) (n i : Nat), (scan n i s).length ≤ s.length := by
  intro s
  induction h : s.length using Nat.strongRecOn generalizing s with
  | _ m ih =>
    intro n i
    cases s with
    | nil => rw [scan_nil]; exact Nat.zero_le _
    | cons c r =>
      subst h
      cases hb : blankB c.toNat with
      | true =>
        rw [scan_blank hb]
        have := ih r.length (by simp) r rfl n (i + 1)
        simp; omega
      | false =>
        by_cases h35 : c.toNat = 35
        · rw [scan_hash hb h35]; exact Nat.zero_le _
        · rw [scan_word hb h35]
          have hl := (List.dropWhile_sublist (l := r) (fun c => !blankB c.toNat)).length_le
          have := ih _ (by simp; omega) (r.dropWhile (fun c => !blankB c.toNat)) rfl n (i + 1 + (r.takeWhile (fun c => !blankB c.toNat)).length)
          simp only [List.length_cons]; omega
theorem lexFrom_at_small (ls : List (List UInt8)) (N : Nat) (h : ∀ s ∈ ls, s.length ≤ N) : ∀ n, ∀ fs ∈ lexFrom n ls, fs.length ≤ N := by
  induction ls with
  | nil => intro n fs hf; simp [lexFrom] at hf
  | cons s r ih =>
    intro n fs hf
    rw [lexFrom] at hf
    have hr := ih (fun s hs => h s (List.mem_cons_of_mem _ hs)) (n + 1)
    split at hf
    · exact hr fs hf
    · rcases List.mem_cons.1 hf with h1 | h1
      · subst h1; exact Nat.le_trans (scan_small s n 0) (h s (List.mem_cons_self ..))
      · exact hr fs h1
theorem lex_lens (l : List UInt8) : (lexLines l).length ≤ 65537 ∧ ∀ fs ∈ lexLines l, fs.length ≤ 65536 := by
  unfold lexLines
  split
  · rename_i h
    have hl := readable_len h
    refine ⟨Nat.le_trans (lexFrom_small _ _) (by have := splitNl_le l; omega), lexFrom_at_small _ _ (fun s hs => ?_) 1⟩
    obtain ⟨k, hk⟩ := List.getElem?_of_mem hs
    have := splitNl_mem l k s hk
    omega
  · exact ⟨Nat.zero_le _, fun fs h => by cases h⟩
theorem errI_ok {b : List UInt8} (h : ¬ errI b ≠ 0) : readableB b = true := by
  unfold errI at h
  cases hb : readableB b with
  | true => rfl
  | false => rw [hb] at h; exact absurd (show (2 : Int) ≠ 0 by decide) h
theorem lex_pos {b : List UInt8} {i : Nat} (h : i < (lexLines b).length) : 0 < ((lexLines b).getD i []).length := by
  have hj := lex_ok b
  have hm : ((lexLines b).getD i []).map (·.text) ∈ textsOf (lexLines b) := List.mem_map.2 ⟨_, by rw [List.getD_eq_getElem?_getD, List.getElem?_eq_getElem h]; exact List.getElem_mem h, rfl⟩
  have := (hj _ hm).1
  rw [Ne, List.map_eq_nil_iff] at this
  exact List.length_pos_iff.2 this
theorem scan_text_len {s : List UInt8} {n i : Nat} {f : Field} (h : f ∈ scan n i s) : f.text.length ≤ s.length + 1 := by
  have h1 := (words_len2 s n i).1
  have h2 : ∀ (l : List Field), f ∈ l → f.text.length ≤ (l.map fun f => f.text.length + 1).sum := by
    intro l
    induction l with
    | nil => intro hf; cases hf
    | cons a r ih =>
      intro hf
      rw [List.map_cons, List.sum_cons]
      rcases List.mem_cons.1 hf with rfl | hf
      · omega
      · have := ih hf; omega
  exact Nat.le_trans (h2 _ h) h1
theorem lex_texts {b : List UInt8} (hr : readableB b = true) (i : Nat) : ∀ f ∈ (lexLines b).getD i [], f.text.length ≤ 4294967280 := by
  intro f hf
  rcases Nat.lt_or_ge i (lexLines b).length with h | h
  · have hm : (lexLines b).getD i [] ∈ lexLines b := by rw [List.getD_eq_getElem?_getD, List.getElem?_eq_getElem h]; exact List.getElem_mem h
    generalize (lexLines b).getD i [] = fs at hm hf
    unfold lexLines at hm
    rw [hr, if_pos rfl] at hm
    obtain ⟨s, hs, m, rfl, _⟩ := lexFrom_mem _ _ _ hm
    have h1 := scan_text_len hf
    obtain ⟨k, hk⟩ := List.getElem?_of_mem hs
    have h2 := splitNl_mem b k s hk
    have h3 := readable_len hr
    omega
  · rw [List.getD_eq_getElem?_getD, List.getElem?_eq_none h] at hf; cases hf
section
variable {M : Nat → Option (List AV)} {a b n i : Nat} {A B A' B' T x : List AV}
theorem mem2 (hne : a ≠ b) : setM (setM (setM (setM M a A) b B) a A') b B' = setM (setM M a A') b B' := by
  funext i
  by_cases e : i = b
  · subst e; rw [setM_get, setM_get]
  · rw [setM_ne e, setM_ne e]
    by_cases e2 : i = a
    · subst e2; rw [setM_get, setM_get]
    · rw [setM_ne e2, setM_ne e, setM_ne e2, setM_ne e2]
theorem non1 (h : setM M a A b = none) (hne : a ≠ b) : M b = none := by rwa [setM_ne (Ne.symm hne)] at h
theorem non2 (h : setM (setM M a A) b B n = none) (ha : a ≠ n) (hb : b ≠ n) : M n = none := by rwa [setM_ne (Ne.symm hb), setM_ne (Ne.symm ha)] at h
theorem inc2 (ha : M a = none) (hb : M b = none) (h : M i = some x) : setM (setM M a A) b B i = some x := by
  rw [setM_ne (fun e => by subst e; rw [hb] at h; cases h), setM_ne (fun e => by subst e; rw [ha] at h; cases h)]; exact h
theorem inc3 (ha : M a = none) (hb : M b = none) (hn : M n = none) (h : M i = some x) : setM (setM (setM M a A) b B) n T i = some x := by
  rw [setM_ne (fun e => by subst e; rw [hn] at h; cases h)]; exact inc2 ha hb h
end
section
variable {b : List UInt8} {c : Cfg} {sn : List (List UInt8)} {i : Nat}
theorem rd_res {c : Cfg} {n : Nat} {e : Int} (h1 : cfC b = c) (h2 : cfN b = n) (h3 : cfE b = e) : AV.tuple [encC c, .lit (.int .i64 (n : Int)), .lit (.int .i64 e)] = .tuple [encC (cfC b), .lit (.int .i64 (cfN b : Int)), .lit (.int .i64 (cfE b))] := by rw [h1, h2, h3]
theorem cf_unread (h : errI b ≠ 0) : AV.tuple [encC cf0, .lit (.int .i64 0), .lit (.int .i64 (errI b))] = .tuple [encC (cfC b), .lit (.int .i64 (cfN b : Int)), .lit (.int .i64 (cfE b))] := by
  have hr : readableB b = false := by
    cases hb : readableB b with
    | false => rfl
    | true => unfold errI at h; rw [hb] at h; exact absurd rfl h
  have he : errI b = 2 := by unfold errI; rw [hr]; rfl
  have h3 : cfE b = 2 := by unfold cfE; rw [if_pos hr]
  have h2 : cfN b = 0 := by unfold cfN; rw [if_neg (fun hh => by rw [hr] at hh; cases hh.1)]
  have h1 : cfC b = cf0 := by unfold cfC; rw [if_neg (by rw [h3]; decide)]
  rw [he]
  exact rd_res h1 h2 h3
theorem cf_line {e1 : Int} (hrun : rawC b = runC c sn ((lexLines b).drop i)) (hi : i < (lexLines b).length) (hr : readableB b = true) (hs1 : e1 = clE sn (ftx ((lexLines b).getD i []))) (he : e1 ≠ 0) :
    AV.tuple [encC cf0, .lit (.int .i64 ((((lexLines b).getD i []).getD 0 f0).line : Int)), .lit (.int .i64 e1)] = .tuple [encC (cfC b), .lit (.int .i64 (cfN b : Int)), .lit (.int .i64 (cfE b))] := by
  have hraw := hrun.trans (run_bad hi (by rw [← hs1]; exact he))
  have h1 : (rawC b).1 = e1 := by rw [hraw, hs1]
  have h3 : cfE b = e1 := by unfold cfE; rw [if_neg (by rw [hr]; decide), if_pos (by rw [h1]; exact he), h1]
  have h2 : cfN b = (((lexLines b).getD i []).getD 0 f0).line := by unfold cfN; rw [if_pos ⟨hr, by rw [h1]; exact he⟩, hraw]
  exact rd_res (by unfold cfC; rw [if_neg (by rw [h3]; exact he)]) h2 h3
theorem raw_end (hrun : rawC b = runC c sn ((lexLines b).drop i)) (hi : (lexLines b).length ≤ i) : rawC b = (0, 0, c, sn) := hrun.trans (run_end hi)
theorem cf_few (hrun : rawC b = runC c sn ((lexLines b).drop i)) (hi : (lexLines b).length ≤ i) (hr : readableB b = true) (hl : sn.length < 6) :
    AV.tuple [encC cf0, .lit (.int .i64 0), .lit (.int .i64 4)] = .tuple [encC (cfC b), .lit (.int .i64 (cfN b : Int)), .lit (.int .i64 (cfE b))] := by
  have hraw := raw_end hrun hi
  have h3 : cfE b = 4 := by unfold cfE; rw [if_neg (by rw [hr]; decide), hraw]; simp [hl]
  exact rd_res (n := 0) (by unfold cfC; rw [if_neg (by rw [h3]; decide)]) (by unfold cfN; rw [if_neg (by rw [hraw]; simp)]) h3
theorem cf_wrong (hrun : rawC b = runC c sn ((lexLines b).drop i)) (hi : (lexLines b).length ≤ i) (hr : readableB b = true) (hl : ¬ sn.length < 6) (hc : ¬ RightC c) :
    AV.tuple [encC cf0, .lit (.int .i64 0), .lit (.int .i64 1)] = .tuple [encC (cfC b), .lit (.int .i64 (cfN b : Int)), .lit (.int .i64 (cfE b))] := by
  have hraw := raw_end hrun hi
  have h3 : cfE b = 1 := by unfold cfE; rw [if_neg (by rw [hr]; decide), hraw]; simp [hl, hc]
  exact rd_res (n := 0) (by unfold cfC; rw [if_neg (by rw [h3]; decide)]) (by unfold cfN; rw [if_neg (by rw [hraw]; simp)]) h3
theorem cf_ok (hrun : rawC b = runC c sn ((lexLines b).drop i)) (hi : (lexLines b).length ≤ i) (hr : readableB b = true) (hl : ¬ sn.length < 6) (hc : RightC c) :
    AV.tuple [encC c, .lit (.int .i64 0), .lit (.int .i64 0)] = .tuple [encC (cfC b), .lit (.int .i64 (cfN b : Int)), .lit (.int .i64 (cfE b))] := by
  have hraw := raw_end hrun hi
  have h3 : cfE b = 0 := by unfold cfE; rw [if_neg (by rw [hr]; decide), hraw]; simp [hl, hc]
  exact rd_res (n := 0) (by unfold cfC; rw [if_pos h3, hraw]) (by unfold cfN; rw [if_neg (by rw [hraw]; simp)]) h3
end

set_option maxRecDepth 20000 in
theorem CRead_any (b : List UInt8) (hb : b.length ≤ 140737488355328) (M : Nat → Option (List AV)) : ACall Tryz.prog 10 [.list false 5 (byteAVs b)] M (fun r M' => r = .tuple [encC (cfC b), zI (cfN b : Int), zI (cfE b)] ∧ M = M') := by
  have hlx := lex_lens b
  refine ACall.subM ?_
  refine ACall.of Tryz.func10 rfl (n := 53) rfl rfl rfl ?_
  refine zg ?_
  refine zal [40] zero_27 [zI 0, zI 0, zI 0, zI 0, zI 0, zI 0, .list false 40 [], zI 0, zI 0, zI 0, zI 0] ?_
  refine zM (zI 0) ?_
  refine zM (zI 0) ?_
  refine zN ?_
  refine zg ?_
  refine zM (.list false 5 (byteAVs b)) ?_
  refine zc [.list false 5 (byteAVs b)] Tryz.call19 (lines_any b (by first | assumption | omega) M) ?_
  rintro _ _ ⟨rfl, rfl⟩
  refine zM (.tuple [.list false 46 ((lexLines b).map encL), zI (errI b)]) ?_
  refine zr (zx (.list false 46 ((lexLines b).map encL))) ?_
  refine zr (zx (zI (errI b))) ?_
  refine zM (.list false 46 ((lexLines b).map encL)) ?_
  refine zM (zI (errI b)) ?_
  refine zN ?_
  refine AWp.seq ?_
  refine zg ?_
  refine zM (zI (errI b)) ?_
  refine zr (zi ((errI b) != 0)) ?_
  refine zN ?_
  refine zC (b := (errI b) != 0) rfl (fun h1 => ?_) (fun h1 => ?_)
  · skip
    have h1' : (errI b) ≠ 0 := (by have hh := bne_iff_ne.1 h1; omega)
    clear h1
    refine zg ?_
    refine zr (Reader.build (xs := []) (Es := [40]) (places := places_27) rfl Tryz.underlying27 (by refine ⟨rfl, fun j p x hp hx => ?_⟩; match j, hp, hx with | _ + 0, hp, hx => cases hp) zero_27 rfl places_27_ok (cs := [zI 0, zI 0, zI 0, zI 0, zI 0, zI 0, .list false 40 [], zI 0, zI 0, zI 0, zI 0]) rfl) ?_
    refine zM (zI (errI b)) ?_
    refine zst sizeOf_27 (.agg [zI 0, zI 0, zI 0, zI 0, zI 0, zI 0, .list false 40 [], zI 0, zI 0, zI 0, zI 0]) ?_
    refine zM (zI 0) ?_
    refine zM (zI (errI b)) ?_
    refine zN ?_
    refine AWp.ret ?_
    exact ⟨.inl rfl, _, ResOf.cellTmpTmp 2 2 0 11 27 _ _ (.agg [zI 0, zI 0, zI 0, zI 0, zI 0, zI 0, .list false 40 [], zI 0, zI 0, zI 0, zI 0]) rfl rfl Tryz.underlying27 sizeOf_27 rfl (Eq.refl true) 3 (zI 0) rfl rfl 4 (zI (errI b)) rfl rfl (by decide), ⟨M, ⟨cf_unread (by assumption), rfl⟩, (fun _ _ h => h)⟩⟩
  · skip
    have h1' : ¬ ((errI b) ≠ 0) := (by have hh := bne_eq_false_iff_eq.1 h1; omega)
    clear h1
    have hrd : readableB b = true := errI_ok h1'
    refine AWp.skip ?_
    refine zg ?_
    refine AOps.allocG (Es := [0]) trivial rfl (by decide) rfl (by decide) zero_27 rfl (cells := [zI 0, zI 0, zI 0, zI 0, zI 0, zI 0, .lit (.slice none 0 0), zI 0, zI 0, zI 0, zI 0]) rfl (all_scalar rfl) (all_flat rfl) ?_
    intro id1 hid1n hid1t
    refine AOps.objList 40 6 setM_get rfl setM_setM ?_
    refine zN ?_
    refine zg ?_
    refine AOps.newMap trivial rfl (by decide) rfl ?_
    intro id2 hid2n
    have hid1id2 : id1 ≠ id2 := fun e => by subst e; have hq := (Eq.symm setM_get).trans hid2n; cases hq
    refine zM (.gmap id2) ?_
    refine zN ?_
    refine AWp.seq ?_
    refine zg ?_
    refine zM (.list false 46 ((lexLines b).map encL)) ?_
    refine zr (zL ((lexLines b).map encL) ((lexLines b).length) Tryz.underlying42 (by simp)) ?_
    refine zM (zI 0) ?_
    refine zN ?_
    refine AWp.block ?_
    refine AWp.loopE [2, 3, 4, 7, 8, 22, 23, 24] [2] (fun m s => ∃ (i : Nat) (c : Cfg) (sn : List (List UInt8)), m = (lexLines b).length - i ∧ s = ⟨[(2, .lptr 2 0), (3, zI 0), (4, zI 0), (7, .gptr id1 0), (8, .gmap id2), (22, .list false 46 ((lexLines b).map encL)), (23, zI (((lexLines b).length : Nat) : Int)), (24, zI (i : Int))], [(2, [zI 0, zI 0, zI 0, zI 0, zI 0, zI 0, .list false 40 [], zI 0, zI 0, zI 0, zI 0])], (setM (setM M id1 (cells true c)) id2 (mapA (seenS sn)))⟩ ∧ (i ≤ (lexLines b).length) ∧ (rawC b = runC c sn ((lexLines b).drop i)) ∧ (SeenOk sn) ∧ (c.thr.length ≤ i)) ?_ ?_
    · exact ⟨_, 0, cf0, [], rfl, rfl, Nat.zero_le _, rfl, ⟨List.nodup_nil, fun w hw => by cases hw⟩, Nat.zero_le _⟩
    · rintro _ _ ⟨i, c, sn, rfl, rfl, hi, hrun, hsn, hth⟩
      refine zg ?_
      refine zr (zi (decide ((i : Int) < (((lexLines b).length : Nat) : Int)))) ?_
      refine zN ?_
      refine AWp.seq ?_
      refine zC (b := decide ((i : Int) < (((lexLines b).length : Nat) : Int))) rfl (fun h2 => ?_) (fun h2 => ?_)
      · skip
        have h2' : i < ((lexLines b).length) := (by have hh := of_decide_eq_true h2; omega)
        clear h2
        refine AWp.skip ?_
        refine AWp.seq ?_
        refine AWp.block ?_
        refine zg ?_
        refine zr (zel i (.list false 50 (((lexLines b).getD i []).map encF)) Tryz.underlying42 sizeOf_46 (getD_map (l := (lexLines b)) (j := i) (by first | assumption | omega))) ?_
        refine zr (zlE (.list false 50 (((lexLines b).getD i []).map encF)) Tryz.underlying46 sizeOf_46) ?_
        refine zM (.list false 50 (((lexLines b).getD i []).map encF)) ?_
        refine zN ?_
        refine zg ?_
        refine zM (.gmap id2) ?_
        refine zM (.list false 50 (((lexLines b).getD i []).map encF)) ?_
        refine zc [.gptr id1 0, .gmap id2, .list false 50 (((lexLines b).getD i []).map encF)] Tryz.call20 (line_any (setM (setM M id1 (cells true c)) id2 (mapA (seenS sn))) c id1 id2 sn ((lexLines b).getD i []) (lex_pos (by omega)) (lex_texts (by assumption) i) (by omega) (by assumption) (fun c2 S2 => (setM (setM M id1 (cells true c2)) id2 (mapA S2))) (fun _ _ => by rw [mem2 hid1id2]) ((setM_ne (by first | assumption | exact Ne.symm (by assumption))).trans setM_get) setM_get) ?_
        rintro _ _ ⟨e1, c1, S1, rfl, rfl, hs1, hs2⟩
        have hlp := lex_pos (b := b) (i := i) (by omega)
        refine zM (zI e1) ?_
        refine zN ?_
        refine zg ?_
        refine zM (zI e1) ?_
        refine zr (zi (e1 != 0)) ?_
        refine zN ?_
        refine zC (b := e1 != 0) rfl (fun h3 => ?_) (fun h3 => ?_)
        · skip
          have h3' : e1 ≠ 0 := (by have hh := bne_iff_ne.1 h3; omega)
          clear h3
          refine AWp.seq (AWp.anyR [2, 3, 4, 7, 8, 22, 23, 24, 25, 10, 11, 32] [2] (⟨[(2, .lptr 2 0), (3, zI (((((lexLines b).getD i []).getD 0 f0).line : Nat) : Int)), (4, zI e1), (7, .gptr id1 0), (8, .gmap id2), (22, .list false 46 ((lexLines b).map encL)), (23, zI (((lexLines b).length : Nat) : Int)), (24, zI (i : Int)), (25, zB (decide ((i : Int) < (((lexLines b).length : Nat) : Int)))), (10, .list false 50 (((lexLines b).getD i []).map encF)), (11, zI e1), (32, zB (e1 != 0))], [(2, [zI 0, zI 0, zI 0, zI 0, zI 0, zI 0, .list false 40 [], zI 0, zI 0, zI 0, zI 0])], (setM (setM M id1 (cells true c1)) id2 (mapA S1))⟩) (by kernel_rfl) ?_ ?_)
          · skip
            skip
            refine zk 0 rfl (PReader.build (xs := []) (Es := [40]) (places := places_27) rfl Tryz.underlying27 (by refine ⟨rfl, fun j p x hp hx => ?_⟩; match j, hp, hx with | _ + 0, hp, hx => cases hp) zero_27 rfl places_27_ok (cs := [zI 0, zI 0, zI 0, zI 0, zI 0, zI 0, .list false 40 [], zI 0, zI 0, zI 0, zI 0]) rfl) ?_
            refine zkm 1 (.list false 50 (((lexLines b).getD i []).map encF)) ?_
            refine zk 2 rfl (PReader.elemAddr (m := 0) rfl Tryz.underlying46 sizeOf_50 rfl rfl rfl (e := encF (((lexLines b).getD i []).getD 0 f0)) (getD_map (l := ((lexLines b).getD i [])) (j := 0) (by first | assumption | omega))) ?_
            refine zk 3 rfl (PReader.fieldE rfl ⟨_, _, Tryz.underlying50, rfl, rfl, rfl, sizeOf_3⟩ (by decide) rfl) ?_
            refine zkm 5 (zI e1) ?_
            refine zq [4, 6] ⟨⟨_, rfl, ?_⟩, ⟨_, rfl, ?_⟩, trivial⟩
            · skip
              refine zr (zlE (zI (((((lexLines b).getD i []).getD 0 f0).line : Nat) : Int)) Tryz.underlying3 sizeOf_3) ?_
              refine zN ?_
              refine zq [6] ⟨⟨_, rfl, ?_⟩, trivial⟩
              · skip
                refine zst sizeOf_27 (.agg [zI 0, zI 0, zI 0, zI 0, zI 0, zI 0, .list false 40 [], zI 0, zI 0, zI 0, zI 0]) ?_
                refine zN ?_
                refine zkm 7 (zI (((((lexLines b).getD i []).getD 0 f0).line : Nat) : Int)) ?_
                refine zkm 8 (zI e1) ?_
                exact SAny.done (by kernel_rfl) rfl
            · skip
              refine zst sizeOf_27 (.agg [zI 0, zI 0, zI 0, zI 0, zI 0, zI 0, .list false 40 [], zI 0, zI 0, zI 0, zI 0]) ?_
              refine zN ?_
              refine zq [4] ⟨⟨_, rfl, ?_⟩, trivial⟩
              · skip
                refine zr (zlE (zI (((((lexLines b).getD i []).getD 0 f0).line : Nat) : Int)) Tryz.underlying3 sizeOf_3) ?_
                refine zN ?_
                refine zkm 7 (zI (((((lexLines b).getD i []).getD 0 f0).line : Nat) : Int)) ?_
                refine zkm 8 (zI e1) ?_
                exact SAny.done (by kernel_rfl) rfl
          refine AWp.ret ?_
          exact ⟨.inl rfl, _, ResOf.cellTmpTmp 2 2 0 11 27 _ _ (.agg [zI 0, zI 0, zI 0, zI 0, zI 0, zI 0, .list false 40 [], zI 0, zI 0, zI 0, zI 0]) rfl rfl Tryz.underlying27 sizeOf_27 rfl (Eq.refl true) 3 (zI (((((lexLines b).getD i []).getD 0 f0).line : Nat) : Int)) rfl rfl 4 (zI e1) rfl rfl (by decide), ⟨M, ⟨cf_line hrun (by omega) (by assumption) hs1 (by assumption), rfl⟩, (fun i x h => inc2 hid1n (non1 hid2n hid1id2) h)⟩⟩
        · skip
          have h3' : ¬ (e1 ≠ 0) := (by have hh := bne_eq_false_iff_eq.1 h3; omega)
          clear h3
          refine AWp.skip ?_
          refine AWp.region ?_
          refine zr (zw ((i : Int) + 1) ((i + 1 : Nat) : Int)) ?_
          refine zM (zI ((i + 1 : Nat) : Int)) ?_
          refine zN ?_
          have he0 := hs1.symm.trans (show e1 = 0 by omega)
          obtain ⟨rfl, rfl⟩ := hs2 (by omega)
          exact ⟨_, by omega, i + 1, clC c (ftx ((lexLines b).getD i [])), clS sn (ftx ((lexLines b).getD i [])), rfl, rfl, by omega, hrun.trans (run_ok (by omega) he0), seen_step hsn he0, Nat.le_trans clC_thr (by omega)⟩
      · skip
        have h2' : ¬ (i < ((lexLines b).length)) := (by have hh := of_decide_eq_false h2; omega)
        clear h2
        refine AWp.exit ?_
        refine AWp.seq ?_
        refine AWp.block ?_
        refine zg ?_
        refine zM (.gmap id2) ?_
        refine zr (Reader.mapLen' (S := (seenS sn)) (m := sn.length) rfl rfl rfl rfl Tryz.underlying45 rfl setM_get (seenS_len _)) ?_
        refine zc [.gptr id1 0] Tryz.call21 (numbers_any id1 (setM (setM M id1 (cells true c)) id2 (mapA (seenS sn)))) ?_
        rintro _ _ ⟨id9, T9, rfl, hid9n, hT9, rfl⟩
        have hid1id9 : id1 ≠ id9 := fun e => by subst e; have hq := (Eq.symm ((setM_ne (by first | assumption | exact Ne.symm (by assumption))).trans setM_get)).trans hid9n; cases hq
        have hid2id9 : id2 ≠ id9 := fun e => by subst e; have hq := (Eq.symm setM_get).trans hid9n; cases hq
        refine zr (Reader.mapLen' (S := T9) (m := 6) rfl rfl rfl rfl Tryz.underlying51 rfl setM_get (by have := hT9.length_eq; simpa [numS] using this)) ?_
        refine zr (zi (decide ((sn.length : Int) < (6 : Int)))) ?_
        refine zM (zB (decide ((sn.length : Int) < (6 : Int)))) ?_
        refine zN ?_
        refine zC (b := decide ((sn.length : Int) < (6 : Int))) rfl (fun h4 => ?_) (fun h4 => ?_)
        · skip
          have h4' : sn.length < 6 := (by have hh := of_decide_eq_true h4; omega)
          clear h4
          refine zg ?_
          refine zr (Reader.build (xs := []) (Es := [40]) (places := places_27) rfl Tryz.underlying27 (by refine ⟨rfl, fun j p x hp hx => ?_⟩; match j, hp, hx with | _ + 0, hp, hx => cases hp) zero_27 rfl places_27_ok (cs := [zI 0, zI 0, zI 0, zI 0, zI 0, zI 0, .list false 40 [], zI 0, zI 0, zI 0, zI 0]) rfl) ?_
          refine zst sizeOf_27 (.agg [zI 0, zI 0, zI 0, zI 0, zI 0, zI 0, .list false 40 [], zI 0, zI 0, zI 0, zI 0]) ?_
          refine zM (zI 0) ?_
          refine zM (zI 4) ?_
          refine zN ?_
          refine AWp.ret ?_
          exact ⟨.inl rfl, _, ResOf.cellTmpTmp 2 2 0 11 27 _ _ (.agg [zI 0, zI 0, zI 0, zI 0, zI 0, zI 0, .list false 40 [], zI 0, zI 0, zI 0, zI 0]) rfl rfl Tryz.underlying27 sizeOf_27 rfl (Eq.refl true) 3 (zI 0) rfl rfl 4 (zI 4) rfl rfl (by decide), ⟨M, ⟨cf_few hrun (by omega) (by assumption) (by omega), rfl⟩, (fun i x h => inc3 hid1n (non1 hid2n hid1id2) (non2 hid9n hid1id9 hid2id9) h)⟩⟩
        · skip
          have h4' : ¬ (sn.length < 6) := (by have hh := of_decide_eq_false h4; omega)
          clear h4
          refine zg ?_
          refine zr (zlG (.agg [zI c.c0, zI c.c1, zI c.c2, zI c.a0, zI c.a1, zI c.a2, .list false 40 (c.thr.map encT), zI c.per, zI c.ret, zI c.age, zI c.ded]) Tryz.underlying27 sizeOf_27 ((setM_ne (by first | assumption | exact Ne.symm (by assumption))).trans ((setM_ne (by first | assumption | exact Ne.symm (by assumption))).trans setM_get))) ?_
          refine zc [encC c] Tryz.call16 (CRight_any c (by first | omega | (simp only [List.length_nil]; omega) | assumption) (setM (setM (setM M id1 (cells true c)) id2 (mapA (seenS sn))) id9 (mapA T9))) ?_
          rintro _ _ ⟨rfl, rfl⟩
          refine zr (zn (decide (RightC c))) ?_
          refine zM (zB (!(decide (RightC c)))) ?_
          refine zN ?_
          refine zC (b := !(decide (RightC c))) rfl (fun h5 => ?_) (fun h5 => ?_)
          · skip
            have h5' : ¬ RightC c := (of_decide_eq_false (bnot_t h5))
            clear h5
            refine zg ?_
            refine zr (Reader.build (xs := []) (Es := [40]) (places := places_27) rfl Tryz.underlying27 (by refine ⟨rfl, fun j p x hp hx => ?_⟩; match j, hp, hx with | _ + 0, hp, hx => cases hp) zero_27 rfl places_27_ok (cs := [zI 0, zI 0, zI 0, zI 0, zI 0, zI 0, .list false 40 [], zI 0, zI 0, zI 0, zI 0]) rfl) ?_
            refine zst sizeOf_27 (.agg [zI 0, zI 0, zI 0, zI 0, zI 0, zI 0, .list false 40 [], zI 0, zI 0, zI 0, zI 0]) ?_
            refine zM (zI 0) ?_
            refine zM (zI 1) ?_
            refine zN ?_
            refine AWp.ret ?_
            exact ⟨.inl rfl, _, ResOf.cellTmpTmp 2 2 0 11 27 _ _ (.agg [zI 0, zI 0, zI 0, zI 0, zI 0, zI 0, .list false 40 [], zI 0, zI 0, zI 0, zI 0]) rfl rfl Tryz.underlying27 sizeOf_27 rfl (Eq.refl true) 3 (zI 0) rfl rfl 4 (zI 1) rfl rfl (by decide), ⟨M, ⟨cf_wrong hrun (by omega) (by assumption) (by omega) (by assumption), rfl⟩, (fun i x h => inc3 hid1n (non1 hid2n hid1id2) (non2 hid9n hid1id9 hid2id9) h)⟩⟩
          · skip
            have h5' : RightC c := (of_decide_eq_true (bnot_f h5))
            clear h5
            refine AWp.skip ?_
            refine zg ?_
            refine zr (zlG (.agg [zI c.c0, zI c.c1, zI c.c2, zI c.a0, zI c.a1, zI c.a2, .list false 40 (c.thr.map encT), zI c.per, zI c.ret, zI c.age, zI c.ded]) Tryz.underlying27 sizeOf_27 ((setM_ne (by first | assumption | exact Ne.symm (by assumption))).trans ((setM_ne (by first | assumption | exact Ne.symm (by assumption))).trans setM_get))) ?_
            refine zst sizeOf_27 (.agg [zI c.c0, zI c.c1, zI c.c2, zI c.a0, zI c.a1, zI c.a2, .list false 40 (c.thr.map encT), zI c.per, zI c.ret, zI c.age, zI c.ded]) ?_
            refine zM (zI 0) ?_
            refine zM (zI 0) ?_
            refine zN ?_
            refine AWp.ret ?_
            exact ⟨.inl rfl, _, ResOf.cellTmpTmp 2 2 0 11 27 _ _ (.agg [zI c.c0, zI c.c1, zI c.c2, zI c.a0, zI c.a1, zI c.a2, .list false 40 (c.thr.map encT), zI c.per, zI c.ret, zI c.age, zI c.ded]) rfl rfl Tryz.underlying27 sizeOf_27 rfl (Eq.refl true) 3 (zI 0) rfl rfl 4 (zI 0) rfl rfl (by decide), ⟨M, ⟨cf_ok hrun (by omega) (by assumption) (by omega) (by assumption), rfl⟩, (fun i x h => inc3 hid1n (non1 hid2n hid1id2) (non2 hid9n hid1id9 hid2id9) h)⟩⟩
end
section
open Go.RowKit
/-- A config's cells, with this for its thresholds. -/
def cellsV (c : Cfg) (v : Value) : List AV := [.lit (.int .i64 c.c0), .lit (.int .i64 c.c1), .lit (.int .i64 c.c2), .lit (.int .i64 c.a0), .lit (.int .i64 c.a1), .lit (.int .i64 c.a2), .lit v, .lit (.int .i64 c.per), .lit (.int .i64 c.ret), .lit (.int .i64 c.age), .lit (.int .i64 c.ded)]
def vI (l : List Field) (u : Nat) : List Int := ((l.drop 1).take (u - 1)).map fun f => (qv f.text : Int)
theorem vI_len {l : List Field} {u : Nat} (h : u ≤ l.length) : (vI l u).length = u - 1 := by
  unfold vI; rw [List.length_map, List.length_take, List.length_drop]; omega
theorem vI_snoc {l : List Field} {u : Nat} (h1 : 1 ≤ u) (h : u < l.length) : (vI l u).map (fun x => AV.lit (.int .i64 x)) ++ [AV.lit (.int .i64 (qv (l.getD u f0).text : Int))] = (vI l (u + 1)).map (fun x => AV.lit (.int .i64 x)) := by
  unfold vI
  have e : (l.drop 1).take (u + 1 - 1) = (l.drop 1).take (u - 1) ++ [l.getD u f0] := by
    rw [show u + 1 - 1 = (u - 1) + 1 by omega, List.take_succ_eq_append_getElem (by rw [List.length_drop]; omega), List.getElem_drop, List.getD_eq_getElem?_getD, List.getElem?_eq_getElem h]
    congr 3; omega
  rw [e, List.map_append, List.map_append]; rfl
theorem vI_all {l : List Field} {u : Nat} (h : l.length ≤ u) : vI l u = ((ftx l).drop 1).map fun w => (qv w : Int) := by
  rw [vals_eq]; unfold vI
  rw [List.take_of_length_le (by rw [List.length_drop]; omega)]
def kTo (w : List UInt8) (j : Nat) : Int := if 0 ≤ kOf w ∧ kOf w < j then kOf w else -1
theorem k_at {j : Nat} (h : j < 6) : kOf (cwL.getD j []) = j := by
  match j, h with
  | 0, _ | 1, _ | 2, _ | 3, _ | 4, _ | 5, _ => decide
theorem k_inv {w : List UInt8} {j : Nat} (h : kOf w = j) : w = cwL.getD j [] := by
  rcases k_cases w with ⟨h1, _⟩ | ⟨h1, h2⟩ | ⟨h1, h2⟩ | ⟨h1, h2⟩ | ⟨h1, h2⟩ | ⟨h1, h2⟩ | ⟨h1, h2⟩
  · omega
  all_goals
    have : j = (kOf w).toNat := by omega
    rw [h1] at this
    subst this; exact h2
theorem kto_0 {w : List UInt8} : (-1 : Int) = kTo w 0 := by unfold kTo; rw [if_neg (by omega)]
theorem kto_hit {w : List UInt8} {j : Nat} (hj : j < 6) (h : cwL.getD j [] = w) : (j : Int) = kTo w (j + 1) := by
  have := k_at hj
  rw [h] at this
  unfold kTo; rw [if_pos ⟨by omega, by omega⟩, this]
theorem kto_miss {w : List UInt8} {j : Nat} {kk : Int} (hj : j < 6) (hk : kk = kTo w j) (h : ¬ cwL.getD j [] = w) : kk = kTo w (j + 1) := by
  rw [hk]
  have : kOf w ≠ j := fun e => h (k_inv e).symm
  unfold kTo
  by_cases hh : 0 ≤ kOf w ∧ kOf w < j
  · rw [if_pos hh, if_pos ⟨hh.1, by omega⟩]
  · rw [if_neg hh, if_neg (by omega)]
theorem kto_6 {w : List UInt8} {j : Nat} (hj : 6 ≤ j) : kTo w j = kOf w := by
  have := k_le w
  unfold kTo
  split
  · rfl
  · rcases k_cases w with ⟨h1, _⟩ | ⟨h1, _⟩ | ⟨h1, _⟩ | ⟨h1, _⟩ | ⟨h1, _⟩ | ⟨h1, _⟩ | ⟨h1, _⟩ <;> omega
theorem lex_fl (b : List UInt8) (i : Nat) : ((lexLines b).getD i []).length ≤ 65536 := by
  rcases Nat.lt_or_ge i (lexLines b).length with h | h
  · exact (lex_lens b).2 _ (by rw [List.getD_eq_getElem?_getD, List.getElem?_eq_getElem h]; exact List.getElem_mem h)
  · rw [List.getD_eq_getElem?_getD, List.getElem?_eq_none h]; exact Nat.zero_le _
theorem fld_len {l : List Field} {m : Nat} (h : ∀ f ∈ l, f.text.length ≤ m) (u : Nat) : (l.getD u f0).text.length ≤ m := by
  rcases Nat.lt_or_ge u l.length with hu | hu
  · exact h _ (fld_mem hu)
  · rw [List.getD_eq_getElem?_getD, List.getElem?_eq_none hu]; exact Nat.zero_le _
/-- What is noted of the words that were. -/
def SeenB (bs : List Bool) (sn : List (List UInt8)) : Prop := bs.length = 6 ∧ ∀ j, j < 6 → bs.getD j false = decide (cwL.getD j [] ∈ sn)
theorem sb_start : SeenB [false, false, false, false, false, false] [] := ⟨rfl, fun j hj => by
  match j, hj with
  | 0, _ | 1, _ | 2, _ | 3, _ | 4, _ | 5, _ => decide⟩
section
variable {b : List UInt8} {c c2 : Cfg} {sn : List (List UInt8)} {bs : List Bool} {l : List Field} {kk : Int} {i u : Nat}
theorem k_word (hkk : kk = kOf (l.getD 0 f0).text) (h0 : 0 ≤ kk) : cwL.getD kk.toNat [] = (l.getD 0 f0).text := (k_inv (by omega)).symm
theorem sb_t (hkk : kk = kOf (l.getD 0 f0).text) (h0 : 0 ≤ kk ∧ kk ≤ 5) (hb : SeenB bs sn) (h : bs.getD kk.toNat false = true) : (l.getD 0 f0).text ∈ sn := by
  rw [hb.2 _ (by omega), k_word hkk h0.1] at h; exact of_decide_eq_true h
theorem sb_f (hkk : kk = kOf (l.getD 0 f0).text) (h0 : 0 ≤ kk ∧ kk ≤ 5) (hb : SeenB bs sn) (h : bs.getD kk.toNat false = false) : (l.getD 0 f0).text ∉ sn := by
  rw [hb.2 _ (by omega), k_word hkk h0.1] at h; exact of_decide_eq_false h
theorem sb_step (hkk : kk = kOf (l.getD 0 f0).text) (h0 : 0 ≤ kk ∧ kk ≤ 5) (hb : SeenB bs sn) : SeenB (bs.set kk.toNat true) (sn ++ [(l.getD 0 f0).text]) := by
  refine ⟨by rw [List.length_set]; exact hb.1, fun j hj => ?_⟩
  have hw := k_word hkk h0.1
  have hl := hb.1
  rw [List.getD_eq_getElem?_getD, List.getElem?_set]
  by_cases e : kk.toNat = j
  · subst e
    rw [if_pos rfl, if_pos (by omega), hw]
    simp
  · rw [if_neg e, ← List.getD_eq_getElem?_getD, hb.2 j hj]
    have : cwL.getD j [] ≠ (l.getD 0 f0).text := fun h => by
      have h2 := k_at hj
      rw [h, ← hkk] at h2; omega
    simp only [List.mem_append, List.mem_singleton, this, or_false]
theorem nx_b (h : ∀ j, j < u → bs.getD j false = true) (h2 : bs.getD u false = true) : ∀ j, j < u + 1 → bs.getD j false = true := by
  intro j hj
  rcases Nat.lt_succ_iff_lt_or_eq.1 hj with h1 | rfl
  · exact h j h1
  · exact h2
theorem rs_few (hs : SeenOk sn) (hb : SeenB bs sn) (hu : u < 6) (h : bs.getD u false = false) : sn.length < 6 := by
  rw [hb.2 u hu] at h
  refine (seen_all hs).2 ⟨_, ?_, of_decide_eq_false h⟩
  have : u < cwL.length := hu
  rw [List.getD_eq_getElem?_getD, List.getElem?_eq_getElem this]; exact List.getElem_mem this
theorem rs_all (hs : SeenOk sn) (hb : SeenB bs sn) (h : ∀ j, j < u → bs.getD j false = true) (hu : 6 ≤ u) : ¬ sn.length < 6 := fun hl => by
  obtain ⟨w, hw, hn⟩ := (seen_all hs).1 hl
  obtain ⟨j, hj, rfl⟩ := List.mem_iff_getElem.1 hw
  have hj6 : j < 6 := hj
  have h1 := h j (by omega)
  rw [hb.2 j hj6] at h1
  have := of_decide_eq_true h1
  rw [List.getD_eq_getElem?_getD, List.getElem?_eq_getElem hj] at this
  exact hn this
theorem rl_thr (h : IsThr (ftx l)) (ho : ¬ OkT (l.getD 1 f0).text) : (2 : Int) = clE sn (ftx l) := by
  unfold clE; rw [if_pos h, ← ftx_get]; unfold errT; rw [if_neg ho]
theorem rl_len (hkk : kk = kOf (l.getD 0 f0).text) (hz : kk < 0 ∨ (kk < 2 ∧ l.length ≠ 4) ∨ (kk ≥ 2 ∧ l.length ≠ 2)) (h : ¬ IsThr (ftx l)) : (2 : Int) = clE sn (ftx l) := by
  unfold clE; rw [if_neg h, if_neg]
  rintro ⟨h1, h2, _⟩
  rw [← ftx_get, ← hkk] at h1 h2
  rw [ftx_len] at h2
  split at h2 <;> omega
theorem q_0 {t : List UInt8} (h : (quantV t).isSome = true) : qe t = 0 := by unfold qe; rw [if_pos h]
theorem q_n {t : List UInt8} (h : (quantV t).isSome = false) : qe t ≠ 0 := by unfold qe; rw [h]; decide
theorem rl_num (h : ¬ IsThr (ftx l)) (h1 : 1 ≤ u) (hu : u < l.length) (hq : (quantV (l.getD u f0).text).isSome = false) : (2 : Int) = clE sn (ftx l) := by
  unfold clE; rw [if_neg h, if_neg]
  rintro ⟨_, _, h3⟩
  refine q_n hq (h3 _ ?_)
  unfold ftx
  rw [← List.map_drop]
  refine List.mem_map.2 ⟨l.getD u f0, ?_, rfl⟩
  refine List.mem_iff_getElem.2 ⟨u - 1, by rw [List.length_drop]; omega, ?_⟩
  rw [List.getElem_drop, List.getD_eq_getElem?_getD, List.getElem?_eq_getElem hu]
  show l[1 + (u - 1)] = l[u]
  congr 1; omega
theorem rl_next (hq : ∀ p, 1 ≤ p → p < u → qe (l.getD p f0).text = 0) (h : (quantV (l.getD u f0).text).isSome = true) : ∀ p, 1 ≤ p → p < u + 1 → qe (l.getD p f0).text = 0 := by
  intro p h1 h2
  rcases Nat.lt_succ_iff_lt_or_eq.1 h2 with h3 | rfl
  · exact hq p h1 h3
  · exact q_0 h
theorem rl_fits (hkk : kk = kOf (l.getD 0 f0).text) (hz : ¬ (kk < 0 ∨ (kk < 2 ∧ l.length ≠ 4) ∨ (kk ≥ 2 ∧ l.length ≠ 2))) (hu : l.length ≤ u) (hq : ∀ p, 1 ≤ p → p < u → qe (l.getD p f0).text = 0) : Fits (ftx l) := by
  refine ⟨by rw [← ftx_get, ← hkk]; omega, by rw [ftx_len, ← ftx_get, ← hkk]; split <;> omega, fun w hw => ?_⟩
  unfold ftx at hw
  rw [← List.map_drop] at hw
  obtain ⟨f, hf, rfl⟩ := List.mem_map.1 hw
  obtain ⟨j, hj, rfl⟩ := List.mem_iff_getElem.1 hf
  rw [List.length_drop] at hj
  have := hq (1 + j) (by omega) (by omega)
  rw [List.getD_eq_getElem?_getD, List.getElem?_eq_getElem (by omega)] at this
  rw [List.getElem_drop]; exact this
theorem rl_twice (hkk : kk = kOf (l.getD 0 f0).text) (h : ¬ IsThr (ftx l)) (hz : ¬ (kk < 0 ∨ (kk < 2 ∧ l.length ≠ 4) ∨ (kk ≥ 2 ∧ l.length ≠ 2))) (_ : 1 ≤ u) (hq : ∀ p, 1 ≤ p → p < u → qe (l.getD p f0).text = 0) (hw : (l.getD 0 f0).text ∈ sn) (hu : l.length ≤ u) : (5 : Int) = clE sn (ftx l) := by
  unfold clE; rw [if_neg h, if_pos (rl_fits hkk hz hu hq), ← ftx_get, if_pos hw]
theorem rl_seen (hkk : kk = kOf (l.getD 0 f0).text) (hz : ¬ (kk < 0 ∨ (kk < 2 ∧ l.length ≠ 4) ∨ (kk ≥ 2 ∧ l.length ≠ 2))) (hs : SeenOk sn) (hw : (l.getD 0 f0).text ∉ sn) : SeenOk (sn ++ [(l.getD 0 f0).text]) := by
  refine ⟨List.nodup_append.2 ⟨hs.1, by simp, fun a ha x hx => ?_⟩, fun w h => ?_⟩
  · rw [List.mem_singleton.1 hx]; exact fun e => hw (by rw [← e]; exact ha)
  · rcases List.mem_append.1 h with h | h
    · exact hs.2 w h
    · rw [List.mem_singleton.1 h]; exact k_mem.1 (by omega)
theorem rl_step1 (hrun : rawC b = runC c sn ((lexLines b).drop i)) (hi : i < (lexLines b).length) (h : IsThr (ftx ((lexLines b).getD i []))) (ho : OkT (((lexLines b).getD i []).getD 1 f0).text) :
    rawC b = runC { c with thr := c.thr ++ [readT (((lexLines b).getD i []).getD 1 f0).text] } sn ((lexLines b).drop (i + 1)) := by
  have h1 := cl_thr (c := c) (sn := sn) h
  have e0 : errT (((lexLines b).getD i []).getD 1 f0).text = 0 := by unfold errT; rw [if_pos ho]
  obtain ⟨h2, h3⟩ := h1.2 e0
  rw [h2]
  have h4 : sn = clS sn (ftx ((lexLines b).getD i [])) := by unfold clS; rw [if_pos h]
  have := hrun.trans (run_ok hi (h1.1.symm.trans e0))
  rwa [← h4] at this
theorem rl_step2 (hrun : rawC b = runC c sn ((lexLines b).drop i)) (hi : i < (lexLines b).length) (hkk : kk = kOf (((lexLines b).getD i []).getD 0 f0).text) (h : ¬ IsThr (ftx ((lexLines b).getD i []))) (hz : ¬ (kk < 0 ∨ (kk < 2 ∧ ((lexLines b).getD i []).length ≠ 4) ∨ (kk ≥ 2 ∧ ((lexLines b).getD i []).length ≠ 2))) (hu : ((lexLines b).getD i []).length ≤ u)
    (hq : ∀ p, 1 ≤ p → p < u → qe (((lexLines b).getD i []).getD p f0).text = 0) (hw : (((lexLines b).getD i []).getD 0 f0).text ∉ sn) (hc2 : c2 = setC c kk (vI ((lexLines b).getD i []) u)) : rawC b = runC c2 (sn ++ [(((lexLines b).getD i []).getD 0 f0).text]) ((lexLines b).drop (i + 1)) := by
  have he : clE sn (ftx ((lexLines b).getD i [])) = 0 := by unfold clE; rw [if_neg h, if_pos (rl_fits hkk hz hu hq), ← ftx_get, if_neg hw]
  have e1 : clC c (ftx ((lexLines b).getD i [])) = c2 := by unfold clC; rw [if_neg h, hc2, vI_all hu, ← ftx_get, ← hkk]
  have e2 : clS sn (ftx ((lexLines b).getD i [])) = sn ++ [(((lexLines b).getD i []).getD 0 f0).text] := by unfold clS; rw [if_neg h, ← ftx_get]
  have := hrun.trans (run_ok hi he)
  rwa [e1, e2] at this
theorem cf_unread2 (h : readableB b = false) : AV.tuple [encC cf0, .lit (.int .i64 0), .lit (.int .i64 2)] = .tuple [encC (cfC b), .lit (.int .i64 (cfN b : Int)), .lit (.int .i64 (cfE b))] := by
  have he : errI b = 2 := by unfold errI; rw [h]; rfl
  have := cf_unread (b := b) (by rw [he]; decide)
  rwa [he] at this
end

set_option maxRecDepth 20000 in
theorem rwords_any  (M : Nat → Option (List AV)) : ACall Tryz.prog 24 [] M (fun r M' => r = .list true 9 (cwL.map AV.str) ∧ M = M') := by
  refine ACall.of Tryz.func24 rfl (n := 2) rfl rfl rfl ?_
  refine zg ?_
  refine AOps.nilList 9 trivial rfl (by decide) (.inl rfl) ?_
  refine zN ?_
  refine zg ?_
  refine zbS [] [.str [99, 97, 112, 97, 99, 105, 116, 121], .str [97, 108, 108, 111, 99, 97, 116, 97, 98, 108, 101], .str [112, 101, 114, 105, 111, 100], .str [114, 101, 116, 114, 105, 101, 115], .str [109, 97, 120, 97, 103, 101], .str [100, 101, 97, 100]] Tryz.underlying38 Tryz.i9 ?_
  refine zT (v := .list true 9 [.str [99, 97, 112, 97, 99, 105, 116, 121], .str [97, 108, 108, 111, 99, 97, 116, 97, 98, 108, 101], .str [112, 101, 114, 105, 111, 100], .str [114, 101, 116, 114, 105, 101, 115], .str [109, 97, 120, 97, 103, 101], .str [100, 101, 97, 100]]) rfl ?_
  refine zN ?_
  refine AWp.ret ?_
  exact ⟨.inl rfl, _, ResOf.one 0 (.list true 9 [.str [99, 97, 112, 97, 99, 105, 116, 121], .str [97, 108, 108, 111, 99, 97, 116, 97, 98, 108, 101], .str [112, 101, 114, 105, 111, 100], .str [114, 101, 116, 114, 105, 101, 115], .str [109, 97, 120, 97, 103, 101], .str [100, 101, 97, 100]]) rfl rfl, ⟨rfl, rfl⟩⟩

set_option maxRecDepth 20000 in
theorem rset_0 (c : Cfg) (po : Option Addr) (pm pc : Nat) (n0 n1 n2 : Int) (M : Nat → Option (List AV)) : ACall Tryz.prog 27 [.agg [zI c.c0, zI c.c1, zI c.c2, zI c.a0, zI c.a1, zI c.a2, .lit (.slice po pm pc), zI c.per, zI c.ret, zI c.age, zI c.ded], zI 0, .list false 3 [zI n0, zI n1, zI n2]] M (fun r M' => ∃ c2, r = .agg (cellsV c2 (.slice po pm pc)) ∧ c2 = setC c 0 [n0, n1, n2] ∧ c2.thr = c.thr ∧ M = M') := by
  refine ACall.of Tryz.func27 rfl (n := 58) rfl rfl rfl ?_
  refine zg ?_
  refine AOps.box trivial rfl (by decide) rfl (noL rfl) rfl (v := .agg [zI c.c0, zI c.c1, zI c.c2, zI c.a0, zI c.a1, zI c.a2, .lit (.slice po pm pc), zI c.per, zI c.ret, zI c.age, zI c.ded]) (.inl ⟨rfl, rfl⟩) rfl rfl (all_flat rfl) ?_
  refine zal [40] zero_27 [zI 0, zI 0, zI 0, zI 0, zI 0, zI 0, .list false 40 [], zI 0, zI 0, zI 0, zI 0] ?_
  refine zN ?_
  refine AWp.seq ?_
  refine zg ?_
  refine zM (zI 0) ?_
  refine zr (zi true) ?_
  refine zN ?_
  refine AWp.cond (b := true) rfl (fun hx => ?_) (fun hx => by cases hx)
  refine AWp.drawn 11 (by kernel_rfl) (by kernel_rfl) ?_
  refine ze (zm (.list false 3 [zI n0, zI n1, zI n2])) ?_
  refine ze (zel 0 (zI n0) Tryz.underlying58 sizeOf_3 rfl) ?_
  refine ze (zlE (zI n0) Tryz.underlying3 sizeOf_3) ?_
  refine ze (zm (.list false 3 [zI n0, zI n1, zI n2])) ?_
  refine ze (zel 1 (zI n1) Tryz.underlying58 sizeOf_3 rfl) ?_
  refine ze (zlE (zI n1) Tryz.underlying3 sizeOf_3) ?_
  refine ze (zm (.list false 3 [zI n0, zI n1, zI n2])) ?_
  refine ze (zel 2 (zI n2) Tryz.underlying58 sizeOf_3 rfl) ?_
  refine ze (zlE (zI n2) Tryz.underlying3 sizeOf_3) ?_
  refine ze (Reader.buildA (xs := [(0, zI n0), (1, zI n1), (2, zI n2)]) (Es := []) rfl Tryz.underlying24 sizeOf_3 (by refine ⟨rfl, fun j p x hp hx => ?_⟩; match j, hp, hx with | 0, hp, hx => cases hp; cases hx; exact ⟨rfl, .inl ⟨rfl, rfl⟩, rfl, rfl⟩ | 1, hp, hx => cases hp; cases hx; exact ⟨rfl, .inl ⟨rfl, rfl⟩, rfl, rfl⟩ | 2, hp, hx => cases hp; cases hx; exact ⟨rfl, .inl ⟨rfl, rfl⟩, rfl, rfl⟩ | _ + 3, hp, hx => cases hp) zero_24 rfl (cs := [zI n0, zI n1, zI n2]) rfl) ?_
  refine ze (zfL Tryz.underlying27 sizeOf_24) ?_
  refine AOpsE.nil ?_
  refine zst sizeOf_24 (.agg [zI n0, zI n1, zI n2]) ?_
  refine zN ?_
  refine AWp.seq ?_
  refine zg ?_
  refine zM (zI 0) ?_
  refine zr (zi false) ?_
  refine zN ?_
  refine AWp.cond (b := false) rfl (fun hx => by cases hx) (fun hx => ?_)
  refine AWp.skip ?_
  refine AWp.seq ?_
  refine zg ?_
  refine zM (zI 0) ?_
  refine zr (zi false) ?_
  refine zN ?_
  refine AWp.cond (b := false) rfl (fun hx => by cases hx) (fun hx => ?_)
  refine AWp.skip ?_
  refine AWp.seq ?_
  refine zg ?_
  refine zM (zI 0) ?_
  refine zr (zi false) ?_
  refine zN ?_
  refine AWp.cond (b := false) rfl (fun hx => by cases hx) (fun hx => ?_)
  refine AWp.skip ?_
  refine AWp.seq ?_
  refine zg ?_
  refine zM (zI 0) ?_
  refine zr (zi false) ?_
  refine zN ?_
  refine AWp.cond (b := false) rfl (fun hx => by cases hx) (fun hx => ?_)
  refine AWp.skip ?_
  refine AWp.seq ?_
  refine zg ?_
  refine zM (zI 0) ?_
  refine zr (zi false) ?_
  refine zN ?_
  refine AWp.cond (b := false) rfl (fun hx => by cases hx) (fun hx => ?_)
  refine AWp.skip ?_
  refine zg ?_
  refine zr (zlL (.agg [zI n0, zI n1, zI n2, zI c.a0, zI c.a1, zI c.a2, .lit (.slice po pm pc), zI c.per, zI c.ret, zI c.age, zI c.ded]) Tryz.underlying27 sizeOf_27) ?_
  refine zst sizeOf_27 (.agg [zI n0, zI n1, zI n2, zI c.a0, zI c.a1, zI c.a2, .lit (.slice po pm pc), zI c.per, zI c.ret, zI c.age, zI c.ded]) ?_
  refine zN ?_
  refine AWp.ret ?_
  exact ⟨.inl rfl, _, ResOf.cell 6 6 0 11 27 _ _ (.agg [zI n0, zI n1, zI n2, zI c.a0, zI c.a1, zI c.a2, .lit (.slice po pm pc), zI c.per, zI c.ret, zI c.age, zI c.ded]) rfl rfl Tryz.underlying27 sizeOf_27 rfl rfl, ⟨setC c 0 [n0, n1, n2], rfl, rfl, rfl, rfl⟩⟩

set_option maxRecDepth 20000 in
theorem rset_1 (c : Cfg) (po : Option Addr) (pm pc : Nat) (n0 n1 n2 : Int) (M : Nat → Option (List AV)) : ACall Tryz.prog 27 [.agg [zI c.c0, zI c.c1, zI c.c2, zI c.a0, zI c.a1, zI c.a2, .lit (.slice po pm pc), zI c.per, zI c.ret, zI c.age, zI c.ded], zI 1, .list false 3 [zI n0, zI n1, zI n2]] M (fun r M' => ∃ c2, r = .agg (cellsV c2 (.slice po pm pc)) ∧ c2 = setC c 1 [n0, n1, n2] ∧ c2.thr = c.thr ∧ M = M') := by
  refine ACall.of Tryz.func27 rfl (n := 58) rfl rfl rfl ?_
  refine zg ?_
  refine AOps.box trivial rfl (by decide) rfl (noL rfl) rfl (v := .agg [zI c.c0, zI c.c1, zI c.c2, zI c.a0, zI c.a1, zI c.a2, .lit (.slice po pm pc), zI c.per, zI c.ret, zI c.age, zI c.ded]) (.inl ⟨rfl, rfl⟩) rfl rfl (all_flat rfl) ?_
  refine zal [40] zero_27 [zI 0, zI 0, zI 0, zI 0, zI 0, zI 0, .list false 40 [], zI 0, zI 0, zI 0, zI 0] ?_
  refine zN ?_
  refine AWp.seq ?_
  refine zg ?_
  refine zM (zI 1) ?_
  refine zr (zi false) ?_
  refine zN ?_
  refine AWp.cond (b := false) rfl (fun hx => by cases hx) (fun hx => ?_)
  refine AWp.skip ?_
  refine AWp.seq ?_
  refine zg ?_
  refine zM (zI 1) ?_
  refine zr (zi true) ?_
  refine zN ?_
  refine AWp.cond (b := true) rfl (fun hx => ?_) (fun hx => by cases hx)
  refine AWp.drawn 11 (by kernel_rfl) (by kernel_rfl) ?_
  refine ze (zm (.list false 3 [zI n0, zI n1, zI n2])) ?_
  refine ze (zel 0 (zI n0) Tryz.underlying58 sizeOf_3 rfl) ?_
  refine ze (zlE (zI n0) Tryz.underlying3 sizeOf_3) ?_
  refine ze (zm (.list false 3 [zI n0, zI n1, zI n2])) ?_
  refine ze (zel 1 (zI n1) Tryz.underlying58 sizeOf_3 rfl) ?_
  refine ze (zlE (zI n1) Tryz.underlying3 sizeOf_3) ?_
  refine ze (zm (.list false 3 [zI n0, zI n1, zI n2])) ?_
  refine ze (zel 2 (zI n2) Tryz.underlying58 sizeOf_3 rfl) ?_
  refine ze (zlE (zI n2) Tryz.underlying3 sizeOf_3) ?_
  refine ze (Reader.buildA (xs := [(0, zI n0), (1, zI n1), (2, zI n2)]) (Es := []) rfl Tryz.underlying24 sizeOf_3 (by refine ⟨rfl, fun j p x hp hx => ?_⟩; match j, hp, hx with | 0, hp, hx => cases hp; cases hx; exact ⟨rfl, .inl ⟨rfl, rfl⟩, rfl, rfl⟩ | 1, hp, hx => cases hp; cases hx; exact ⟨rfl, .inl ⟨rfl, rfl⟩, rfl, rfl⟩ | 2, hp, hx => cases hp; cases hx; exact ⟨rfl, .inl ⟨rfl, rfl⟩, rfl, rfl⟩ | _ + 3, hp, hx => cases hp) zero_24 rfl (cs := [zI n0, zI n1, zI n2]) rfl) ?_
  refine ze (zfL Tryz.underlying27 sizeOf_24) ?_
  refine AOpsE.nil ?_
  refine zst sizeOf_24 (.agg [zI n0, zI n1, zI n2]) ?_
  refine zN ?_
  refine AWp.seq ?_
  refine zg ?_
  refine zM (zI 1) ?_
  refine zr (zi false) ?_
  refine zN ?_
  refine AWp.cond (b := false) rfl (fun hx => by cases hx) (fun hx => ?_)
  refine AWp.skip ?_
  refine AWp.seq ?_
  refine zg ?_
  refine zM (zI 1) ?_
  refine zr (zi false) ?_
  refine zN ?_
  refine AWp.cond (b := false) rfl (fun hx => by cases hx) (fun hx => ?_)
  refine AWp.skip ?_
  refine AWp.seq ?_
  refine zg ?_
  refine zM (zI 1) ?_
  refine zr (zi false) ?_
  refine zN ?_
  refine AWp.cond (b := false) rfl (fun hx => by cases hx) (fun hx => ?_)
  refine AWp.skip ?_
  refine AWp.seq ?_
  refine zg ?_
  refine zM (zI 1) ?_
  refine zr (zi false) ?_
  refine zN ?_
  refine AWp.cond (b := false) rfl (fun hx => by cases hx) (fun hx => ?_)
  refine AWp.skip ?_
  refine zg ?_
  refine zr (zlL (.agg [zI c.c0, zI c.c1, zI c.c2, zI n0, zI n1, zI n2, .lit (.slice po pm pc), zI c.per, zI c.ret, zI c.age, zI c.ded]) Tryz.underlying27 sizeOf_27) ?_
  refine zst sizeOf_27 (.agg [zI c.c0, zI c.c1, zI c.c2, zI n0, zI n1, zI n2, .lit (.slice po pm pc), zI c.per, zI c.ret, zI c.age, zI c.ded]) ?_
  refine zN ?_
  refine AWp.ret ?_
  exact ⟨.inl rfl, _, ResOf.cell 6 6 0 11 27 _ _ (.agg [zI c.c0, zI c.c1, zI c.c2, zI n0, zI n1, zI n2, .lit (.slice po pm pc), zI c.per, zI c.ret, zI c.age, zI c.ded]) rfl rfl Tryz.underlying27 sizeOf_27 rfl rfl, ⟨setC c 1 [n0, n1, n2], rfl, rfl, rfl, rfl⟩⟩

set_option maxRecDepth 20000 in
theorem rset_2 (c : Cfg) (po : Option Addr) (pm pc : Nat) (n0 : Int) (M : Nat → Option (List AV)) : ACall Tryz.prog 27 [.agg [zI c.c0, zI c.c1, zI c.c2, zI c.a0, zI c.a1, zI c.a2, .lit (.slice po pm pc), zI c.per, zI c.ret, zI c.age, zI c.ded], zI 2, .list false 3 [zI n0]] M (fun r M' => ∃ c2, r = .agg (cellsV c2 (.slice po pm pc)) ∧ c2 = setC c 2 [n0] ∧ c2.thr = c.thr ∧ M = M') := by
  refine ACall.of Tryz.func27 rfl (n := 58) rfl rfl rfl ?_
  refine zg ?_
  refine AOps.box trivial rfl (by decide) rfl (noL rfl) rfl (v := .agg [zI c.c0, zI c.c1, zI c.c2, zI c.a0, zI c.a1, zI c.a2, .lit (.slice po pm pc), zI c.per, zI c.ret, zI c.age, zI c.ded]) (.inl ⟨rfl, rfl⟩) rfl rfl (all_flat rfl) ?_
  refine zal [40] zero_27 [zI 0, zI 0, zI 0, zI 0, zI 0, zI 0, .list false 40 [], zI 0, zI 0, zI 0, zI 0] ?_
  refine zN ?_
  refine AWp.seq ?_
  refine zg ?_
  refine zM (zI 2) ?_
  refine zr (zi false) ?_
  refine zN ?_
  refine AWp.cond (b := false) rfl (fun hx => by cases hx) (fun hx => ?_)
  refine AWp.skip ?_
  refine AWp.seq ?_
  refine zg ?_
  refine zM (zI 2) ?_
  refine zr (zi false) ?_
  refine zN ?_
  refine AWp.cond (b := false) rfl (fun hx => by cases hx) (fun hx => ?_)
  refine AWp.skip ?_
  refine AWp.seq ?_
  refine zg ?_
  refine zM (zI 2) ?_
  refine zr (zi true) ?_
  refine zN ?_
  refine AWp.cond (b := true) rfl (fun hx => ?_) (fun hx => by cases hx)
  refine AWp.region ?_
  refine zM (.list false 3 [zI n0]) ?_
  refine zr (zel 0 (zI n0) Tryz.underlying58 sizeOf_3 rfl) ?_
  refine zr (zlE (zI n0) Tryz.underlying3 sizeOf_3) ?_
  refine zr (zfL Tryz.underlying27 sizeOf_3) ?_
  refine zst sizeOf_3 (zI n0) ?_
  refine zN ?_
  refine AWp.seq ?_
  refine zg ?_
  refine zM (zI 2) ?_
  refine zr (zi false) ?_
  refine zN ?_
  refine AWp.cond (b := false) rfl (fun hx => by cases hx) (fun hx => ?_)
  refine AWp.skip ?_
  refine AWp.seq ?_
  refine zg ?_
  refine zM (zI 2) ?_
  refine zr (zi false) ?_
  refine zN ?_
  refine AWp.cond (b := false) rfl (fun hx => by cases hx) (fun hx => ?_)
  refine AWp.skip ?_
  refine AWp.seq ?_
  refine zg ?_
  refine zM (zI 2) ?_
  refine zr (zi false) ?_
  refine zN ?_
  refine AWp.cond (b := false) rfl (fun hx => by cases hx) (fun hx => ?_)
  refine AWp.skip ?_
  refine zg ?_
  refine zr (zlL (.agg [zI c.c0, zI c.c1, zI c.c2, zI c.a0, zI c.a1, zI c.a2, .lit (.slice po pm pc), zI n0, zI c.ret, zI c.age, zI c.ded]) Tryz.underlying27 sizeOf_27) ?_
  refine zst sizeOf_27 (.agg [zI c.c0, zI c.c1, zI c.c2, zI c.a0, zI c.a1, zI c.a2, .lit (.slice po pm pc), zI n0, zI c.ret, zI c.age, zI c.ded]) ?_
  refine zN ?_
  refine AWp.ret ?_
  exact ⟨.inl rfl, _, ResOf.cell 6 6 0 11 27 _ _ (.agg [zI c.c0, zI c.c1, zI c.c2, zI c.a0, zI c.a1, zI c.a2, .lit (.slice po pm pc), zI n0, zI c.ret, zI c.age, zI c.ded]) rfl rfl Tryz.underlying27 sizeOf_27 rfl rfl, ⟨setC c 2 [n0], rfl, rfl, rfl, rfl⟩⟩

set_option maxRecDepth 20000 in
theorem rset_3 (c : Cfg) (po : Option Addr) (pm pc : Nat) (n0 : Int) (M : Nat → Option (List AV)) : ACall Tryz.prog 27 [.agg [zI c.c0, zI c.c1, zI c.c2, zI c.a0, zI c.a1, zI c.a2, .lit (.slice po pm pc), zI c.per, zI c.ret, zI c.age, zI c.ded], zI 3, .list false 3 [zI n0]] M (fun r M' => ∃ c2, r = .agg (cellsV c2 (.slice po pm pc)) ∧ c2 = setC c 3 [n0] ∧ c2.thr = c.thr ∧ M = M') := by
  refine ACall.of Tryz.func27 rfl (n := 58) rfl rfl rfl ?_
  refine zg ?_
  refine AOps.box trivial rfl (by decide) rfl (noL rfl) rfl (v := .agg [zI c.c0, zI c.c1, zI c.c2, zI c.a0, zI c.a1, zI c.a2, .lit (.slice po pm pc), zI c.per, zI c.ret, zI c.age, zI c.ded]) (.inl ⟨rfl, rfl⟩) rfl rfl (all_flat rfl) ?_
  refine zal [40] zero_27 [zI 0, zI 0, zI 0, zI 0, zI 0, zI 0, .list false 40 [], zI 0, zI 0, zI 0, zI 0] ?_
  refine zN ?_
  refine AWp.seq ?_
  refine zg ?_
  refine zM (zI 3) ?_
  refine zr (zi false) ?_
  refine zN ?_
  refine AWp.cond (b := false) rfl (fun hx => by cases hx) (fun hx => ?_)
  refine AWp.skip ?_
  refine AWp.seq ?_
  refine zg ?_
  refine zM (zI 3) ?_
  refine zr (zi false) ?_
  refine zN ?_
  refine AWp.cond (b := false) rfl (fun hx => by cases hx) (fun hx => ?_)
  refine AWp.skip ?_
  refine AWp.seq ?_
  refine zg ?_
  refine zM (zI 3) ?_
  refine zr (zi false) ?_
  refine zN ?_
  refine AWp.cond (b := false) rfl (fun hx => by cases hx) (fun hx => ?_)
  refine AWp.skip ?_
  refine AWp.seq ?_
  refine zg ?_
  refine zM (zI 3) ?_
  refine zr (zi true) ?_
  refine zN ?_
  refine AWp.cond (b := true) rfl (fun hx => ?_) (fun hx => by cases hx)
  refine AWp.region ?_
  refine zM (.list false 3 [zI n0]) ?_
  refine zr (zel 0 (zI n0) Tryz.underlying58 sizeOf_3 rfl) ?_
  refine zr (zlE (zI n0) Tryz.underlying3 sizeOf_3) ?_
  refine zr (zfL Tryz.underlying27 sizeOf_3) ?_
  refine zst sizeOf_3 (zI n0) ?_
  refine zN ?_
  refine AWp.seq ?_
  refine zg ?_
  refine zM (zI 3) ?_
  refine zr (zi false) ?_
  refine zN ?_
  refine AWp.cond (b := false) rfl (fun hx => by cases hx) (fun hx => ?_)
  refine AWp.skip ?_
  refine AWp.seq ?_
  refine zg ?_
  refine zM (zI 3) ?_
  refine zr (zi false) ?_
  refine zN ?_
  refine AWp.cond (b := false) rfl (fun hx => by cases hx) (fun hx => ?_)
  refine AWp.skip ?_
  refine zg ?_
  refine zr (zlL (.agg [zI c.c0, zI c.c1, zI c.c2, zI c.a0, zI c.a1, zI c.a2, .lit (.slice po pm pc), zI c.per, zI n0, zI c.age, zI c.ded]) Tryz.underlying27 sizeOf_27) ?_
  refine zst sizeOf_27 (.agg [zI c.c0, zI c.c1, zI c.c2, zI c.a0, zI c.a1, zI c.a2, .lit (.slice po pm pc), zI c.per, zI n0, zI c.age, zI c.ded]) ?_
  refine zN ?_
  refine AWp.ret ?_
  exact ⟨.inl rfl, _, ResOf.cell 6 6 0 11 27 _ _ (.agg [zI c.c0, zI c.c1, zI c.c2, zI c.a0, zI c.a1, zI c.a2, .lit (.slice po pm pc), zI c.per, zI n0, zI c.age, zI c.ded]) rfl rfl Tryz.underlying27 sizeOf_27 rfl rfl, ⟨setC c 3 [n0], rfl, rfl, rfl, rfl⟩⟩

set_option maxRecDepth 20000 in
theorem rset_4 (c : Cfg) (po : Option Addr) (pm pc : Nat) (n0 : Int) (M : Nat → Option (List AV)) : ACall Tryz.prog 27 [.agg [zI c.c0, zI c.c1, zI c.c2, zI c.a0, zI c.a1, zI c.a2, .lit (.slice po pm pc), zI c.per, zI c.ret, zI c.age, zI c.ded], zI 4, .list false 3 [zI n0]] M (fun r M' => ∃ c2, r = .agg (cellsV c2 (.slice po pm pc)) ∧ c2 = setC c 4 [n0] ∧ c2.thr = c.thr ∧ M = M') := by
  refine ACall.of Tryz.func27 rfl (n := 58) rfl rfl rfl ?_
  refine zg ?_
  refine AOps.box trivial rfl (by decide) rfl (noL rfl) rfl (v := .agg [zI c.c0, zI c.c1, zI c.c2, zI c.a0, zI c.a1, zI c.a2, .lit (.slice po pm pc), zI c.per, zI c.ret, zI c.age, zI c.ded]) (.inl ⟨rfl, rfl⟩) rfl rfl (all_flat rfl) ?_
  refine zal [40] zero_27 [zI 0, zI 0, zI 0, zI 0, zI 0, zI 0, .list false 40 [], zI 0, zI 0, zI 0, zI 0] ?_
  refine zN ?_
  refine AWp.seq ?_
  refine zg ?_
  refine zM (zI 4) ?_
  refine zr (zi false) ?_
  refine zN ?_
  refine AWp.cond (b := false) rfl (fun hx => by cases hx) (fun hx => ?_)
  refine AWp.skip ?_
  refine AWp.seq ?_
  refine zg ?_
  refine zM (zI 4) ?_
  refine zr (zi false) ?_
  refine zN ?_
  refine AWp.cond (b := false) rfl (fun hx => by cases hx) (fun hx => ?_)
  refine AWp.skip ?_
  refine AWp.seq ?_
  refine zg ?_
  refine zM (zI 4) ?_
  refine zr (zi false) ?_
  refine zN ?_
  refine AWp.cond (b := false) rfl (fun hx => by cases hx) (fun hx => ?_)
  refine AWp.skip ?_
  refine AWp.seq ?_
  refine zg ?_
  refine zM (zI 4) ?_
  refine zr (zi false) ?_
  refine zN ?_
  refine AWp.cond (b := false) rfl (fun hx => by cases hx) (fun hx => ?_)
  refine AWp.skip ?_
  refine AWp.seq ?_
  refine zg ?_
  refine zM (zI 4) ?_
  refine zr (zi true) ?_
  refine zN ?_
  refine AWp.cond (b := true) rfl (fun hx => ?_) (fun hx => by cases hx)
  refine AWp.region ?_
  refine zM (.list false 3 [zI n0]) ?_
  refine zr (zel 0 (zI n0) Tryz.underlying58 sizeOf_3 rfl) ?_
  refine zr (zlE (zI n0) Tryz.underlying3 sizeOf_3) ?_
  refine zr (zfL Tryz.underlying27 sizeOf_3) ?_
  refine zst sizeOf_3 (zI n0) ?_
  refine zN ?_
  refine AWp.seq ?_
  refine zg ?_
  refine zM (zI 4) ?_
  refine zr (zi false) ?_
  refine zN ?_
  refine AWp.cond (b := false) rfl (fun hx => by cases hx) (fun hx => ?_)
  refine AWp.skip ?_
  refine zg ?_
  refine zr (zlL (.agg [zI c.c0, zI c.c1, zI c.c2, zI c.a0, zI c.a1, zI c.a2, .lit (.slice po pm pc), zI c.per, zI c.ret, zI n0, zI c.ded]) Tryz.underlying27 sizeOf_27) ?_
  refine zst sizeOf_27 (.agg [zI c.c0, zI c.c1, zI c.c2, zI c.a0, zI c.a1, zI c.a2, .lit (.slice po pm pc), zI c.per, zI c.ret, zI n0, zI c.ded]) ?_
  refine zN ?_
  refine AWp.ret ?_
  exact ⟨.inl rfl, _, ResOf.cell 6 6 0 11 27 _ _ (.agg [zI c.c0, zI c.c1, zI c.c2, zI c.a0, zI c.a1, zI c.a2, .lit (.slice po pm pc), zI c.per, zI c.ret, zI n0, zI c.ded]) rfl rfl Tryz.underlying27 sizeOf_27 rfl rfl, ⟨setC c 4 [n0], rfl, rfl, rfl, rfl⟩⟩

set_option maxRecDepth 20000 in
theorem rset_5 (c : Cfg) (po : Option Addr) (pm pc : Nat) (n0 : Int) (M : Nat → Option (List AV)) : ACall Tryz.prog 27 [.agg [zI c.c0, zI c.c1, zI c.c2, zI c.a0, zI c.a1, zI c.a2, .lit (.slice po pm pc), zI c.per, zI c.ret, zI c.age, zI c.ded], zI 5, .list false 3 [zI n0]] M (fun r M' => ∃ c2, r = .agg (cellsV c2 (.slice po pm pc)) ∧ c2 = setC c 5 [n0] ∧ c2.thr = c.thr ∧ M = M') := by
  refine ACall.of Tryz.func27 rfl (n := 58) rfl rfl rfl ?_
  refine zg ?_
  refine AOps.box trivial rfl (by decide) rfl (noL rfl) rfl (v := .agg [zI c.c0, zI c.c1, zI c.c2, zI c.a0, zI c.a1, zI c.a2, .lit (.slice po pm pc), zI c.per, zI c.ret, zI c.age, zI c.ded]) (.inl ⟨rfl, rfl⟩) rfl rfl (all_flat rfl) ?_
  refine zal [40] zero_27 [zI 0, zI 0, zI 0, zI 0, zI 0, zI 0, .list false 40 [], zI 0, zI 0, zI 0, zI 0] ?_
  refine zN ?_
  refine AWp.seq ?_
  refine zg ?_
  refine zM (zI 5) ?_
  refine zr (zi false) ?_
  refine zN ?_
  refine AWp.cond (b := false) rfl (fun hx => by cases hx) (fun hx => ?_)
  refine AWp.skip ?_
  refine AWp.seq ?_
  refine zg ?_
  refine zM (zI 5) ?_
  refine zr (zi false) ?_
  refine zN ?_
  refine AWp.cond (b := false) rfl (fun hx => by cases hx) (fun hx => ?_)
  refine AWp.skip ?_
  refine AWp.seq ?_
  refine zg ?_
  refine zM (zI 5) ?_
  refine zr (zi false) ?_
  refine zN ?_
  refine AWp.cond (b := false) rfl (fun hx => by cases hx) (fun hx => ?_)
  refine AWp.skip ?_
  refine AWp.seq ?_
  refine zg ?_
  refine zM (zI 5) ?_
  refine zr (zi false) ?_
  refine zN ?_
  refine AWp.cond (b := false) rfl (fun hx => by cases hx) (fun hx => ?_)
  refine AWp.skip ?_
  refine AWp.seq ?_
  refine zg ?_
  refine zM (zI 5) ?_
  refine zr (zi false) ?_
  refine zN ?_
  refine AWp.cond (b := false) rfl (fun hx => by cases hx) (fun hx => ?_)
  refine AWp.skip ?_
  refine AWp.seq ?_
  refine zg ?_
  refine zM (zI 5) ?_
  refine zr (zi true) ?_
  refine zN ?_
  refine AWp.cond (b := true) rfl (fun hx => ?_) (fun hx => by cases hx)
  refine AWp.region ?_
  refine zM (.list false 3 [zI n0]) ?_
  refine zr (zel 0 (zI n0) Tryz.underlying58 sizeOf_3 rfl) ?_
  refine zr (zlE (zI n0) Tryz.underlying3 sizeOf_3) ?_
  refine zr (zfL Tryz.underlying27 sizeOf_3) ?_
  refine zst sizeOf_3 (zI n0) ?_
  refine zN ?_
  refine zg ?_
  refine zr (zlL (.agg [zI c.c0, zI c.c1, zI c.c2, zI c.a0, zI c.a1, zI c.a2, .lit (.slice po pm pc), zI c.per, zI c.ret, zI c.age, zI n0]) Tryz.underlying27 sizeOf_27) ?_
  refine zst sizeOf_27 (.agg [zI c.c0, zI c.c1, zI c.c2, zI c.a0, zI c.a1, zI c.a2, .lit (.slice po pm pc), zI c.per, zI c.ret, zI c.age, zI n0]) ?_
  refine zN ?_
  refine AWp.ret ?_
  exact ⟨.inl rfl, _, ResOf.cell 6 6 0 11 27 _ _ (.agg [zI c.c0, zI c.c1, zI c.c2, zI c.a0, zI c.a1, zI c.a2, .lit (.slice po pm pc), zI c.per, zI c.ret, zI c.age, zI n0]) rfl rfl Tryz.underlying27 sizeOf_27 rfl rfl, ⟨setC c 5 [n0], rfl, rfl, rfl, rfl⟩⟩

theorem rset_any (c : Cfg) (po : Option Addr) (pm pc : Nat) (k : Int) (hk : 0 ≤ k ∧ k ≤ 5) (ns : List Int) (hl : ns.length = if k < 2 then 3 else 1) (M : Nat → Option (List AV)) :
    ACall Tryz.prog 27 [.agg (cellsV c (.slice po pm pc)), zI k, .list false 3 (ns.map fun x => zI x)] M (fun r M' => ∃ c2, r = .agg (cellsV c2 (.slice po pm pc)) ∧ c2 = setC c k ns ∧ c2.thr = c.thr ∧ M = M') := by
  have hh : k = 0 ∨ k = 1 ∨ k = 2 ∨ k = 3 ∨ k = 4 ∨ k = 5 := by omega
  rcases hh with rfl | rfl | rfl | rfl | rfl | rfl
  · match ns, hl with
    | [n0, n1, n2], _ => exact rset_0 c po pm pc n0 n1 n2 M
  · match ns, hl with
    | [n0, n1, n2], _ => exact rset_1 c po pm pc n0 n1 n2 M
  · match ns, hl with
    | [n0], _ => exact rset_2 c po pm pc n0 M
  · match ns, hl with
    | [n0], _ => exact rset_3 c po pm pc n0 M
  · match ns, hl with
    | [n0], _ => exact rset_4 c po pm pc n0 M
  · match ns, hl with
    | [n0], _ => exact rset_5 c po pm pc n0 M

set_option maxRecDepth 20000 in
theorem RRead_any (b : List UInt8) (hb : b.length ≤ 140737488355328) (M : Nat → Option (List AV)) : ACall Tryz.prog 11 [.list false 5 (byteAVs b)] M (fun r M' => r = .tuple [encC (cfC b), zI (cfN b : Int), zI (cfE b)] ∧ M = M') := by
  have hlx := lex_lens b
  refine ACall.subM ?_
  refine ACall.of Tryz.func11 rfl (n := 154) rfl rfl rfl ?_
  refine zg ?_
  refine zal [40] zero_27 [zI 0, zI 0, zI 0, zI 0, zI 0, zI 0, .list false 40 [], zI 0, zI 0, zI 0, zI 0] ?_
  refine zM (zI 0) ?_
  refine zM (zI 0) ?_
  refine zN ?_
  refine AWp.seq ?_
  refine zg ?_
  refine zM (.list false 5 (byteAVs b)) ?_
  refine zc [.list false 5 (byteAVs b)] Tryz.call22 (rreadable_any b (by first | assumption | omega) M) ?_
  rintro _ _ ⟨rfl, rfl⟩
  refine zr (zn (readableB b)) ?_
  refine zN ?_
  refine zC (b := !(readableB b)) rfl (fun h1 => ?_) (fun h1 => ?_)
  · skip
    have h1' : readableB b = false := (bnot_t h1)
    clear h1
    refine zg ?_
    refine zr (Reader.build (xs := []) (Es := [40]) (places := places_27) rfl Tryz.underlying27 (by refine ⟨rfl, fun j p x hp hx => ?_⟩; match j, hp, hx with | _ + 0, hp, hx => cases hp) zero_27 rfl places_27_ok (cs := [zI 0, zI 0, zI 0, zI 0, zI 0, zI 0, .list false 40 [], zI 0, zI 0, zI 0, zI 0]) rfl) ?_
    refine zst sizeOf_27 (.agg [zI 0, zI 0, zI 0, zI 0, zI 0, zI 0, .list false 40 [], zI 0, zI 0, zI 0, zI 0]) ?_
    refine zM (zI 0) ?_
    refine zM (zI 2) ?_
    refine zN ?_
    refine AWp.ret ?_
    exact ⟨.inl rfl, _, ResOf.cellTmpTmp 2 2 0 11 27 _ _ (.agg [zI 0, zI 0, zI 0, zI 0, zI 0, zI 0, .list false 40 [], zI 0, zI 0, zI 0, zI 0]) rfl rfl Tryz.underlying27 sizeOf_27 rfl (Eq.refl true) 3 (zI 0) rfl rfl 4 (zI 2) rfl rfl (by decide), ⟨M, ⟨(cf_unread2 (by assumption)), rfl⟩, (fun _ _ h => h)⟩⟩
  · skip
    have h1' : readableB b = true := (bnot_f h1)
    clear h1
    have hrd := h1'
    refine AWp.skip ?_
    refine zg ?_
    refine zM (.list false 5 (byteAVs b)) ?_
    refine zc [.list false 5 (byteAVs b)] Tryz.call23 (rlines_any b (by first | assumption | omega) (by assumption) M) ?_
    rintro _ _ ⟨rfl, rfl⟩
    refine zT (v := .list true 46 ((lexLines b).map encL)) rfl ?_
    refine zN ?_
    refine zg ?_
    refine AOps.allocG (Es := [0]) trivial rfl (by decide) rfl (by decide) zero_27 rfl (cells := [zI 0, zI 0, zI 0, zI 0, zI 0, zI 0, .lit (.slice none 0 0), zI 0, zI 0, zI 0, zI 0]) rfl (all_scalar rfl) (all_flat rfl) ?_
    intro id1 hid1n hid1t
    refine AOps.objList 40 6 setM_get rfl setM_setM ?_
    refine zN ?_
    refine zg ?_
    refine zal [] zero_54 [zB false, zB false, zB false, zB false, zB false, zB false] ?_
    refine zN ?_
    refine zg ?_
    refine zc [] Tryz.call24 (rwords_any (setM M id1 [zI 0, zI 0, zI 0, zI 0, zI 0, zI 0, .list true 40 [], zI 0, zI 0, zI 0, zI 0])) ?_
    rintro _ _ ⟨rfl, rfl⟩
    refine zT (v := .list true 9 (cwL.map AV.str)) rfl ?_
    refine zN ?_
    refine AWp.seq ?_
    refine zg ?_
    refine zM (zI 0) ?_
    refine zN ?_
    refine AWp.block ?_
    refine AWp.loopE [2, 3, 4, 5, 6, 7, 8, 9] [2, 7] (fun m s => ∃ (i : Nat) (c : Cfg) (sn : List (List UInt8)) (bs : List Bool), m = (lexLines b).length - i ∧ s = ⟨[(2, .lptr 2 0), (3, zI 0), (4, zI 0), (5, .list true 46 ((lexLines b).map encL)), (6, .gptr id1 0), (7, .lptr 7 0), (8, .list true 9 (cwL.map AV.str)), (9, zI (i : Int))], [(2, [zI 0, zI 0, zI 0, zI 0, zI 0, zI 0, .list false 40 [], zI 0, zI 0, zI 0, zI 0]), (7, boolsA bs)], (setM M id1 (cells true c))⟩ ∧ (i ≤ (lexLines b).length) ∧ (rawC b = runC c sn ((lexLines b).drop i)) ∧ (SeenOk sn) ∧ (c.thr.length ≤ i) ∧ (SeenB bs sn)) ?_ ?_
    · exact ⟨_, 0, cf0, [], [false, false, false, false, false, false], rfl, rfl, Nat.zero_le _, rfl, ⟨List.nodup_nil, fun w hw => by cases hw⟩, Nat.zero_le _, sb_start⟩
    · rintro _ _ ⟨i, c, sn, bs, rfl, rfl, hi, hrun, hsn, hth, hbs⟩
      refine AWp.seq ?_
      refine zg ?_
      refine zM (zI (i : Int)) ?_
      refine zM (.list false 46 ((lexLines b).map encL)) ?_
      refine zr (zL ((lexLines b).map encL) ((lexLines b).length) Tryz.underlying42 (by simp)) ?_
      refine zr (zi (decide ((i : Int) < (((lexLines b).length : Nat) : Int)))) ?_
      refine zN ?_
      refine zC (b := decide ((i : Int) < (((lexLines b).length : Nat) : Int))) rfl (fun h2 => ?_) (fun h2 => ?_)
      · skip
        have h2' : i < ((lexLines b).length) := (by have hh := of_decide_eq_true h2; omega)
        clear h2
        have hlp := lex_pos h2'
        refine AWp.skip ?_
        refine AWp.seq ?_
        refine AWp.block ?_
        refine zg ?_
        refine zM (.list false 46 ((lexLines b).map encL)) ?_
        refine zM (zI (i : Int)) ?_
        refine zr (zel i (.list false 50 (((lexLines b).getD i []).map encF)) Tryz.underlying42 sizeOf_46 (getD_map (l := (lexLines b)) (j := i) (by first | assumption | omega))) ?_
        refine zr (zlE (.list false 50 (((lexLines b).getD i []).map encF)) Tryz.underlying46 sizeOf_46) ?_
        refine zM (.list false 50 (((lexLines b).getD i []).map encF)) ?_
        refine zN ?_
        refine zg ?_
        refine zM (.list false 50 (((lexLines b).getD i []).map encF)) ?_
        refine zr (zel 0 (encF (((lexLines b).getD i []).getD 0 f0)) Tryz.underlying46 sizeOf_50 (getD_map (l := ((lexLines b).getD i [])) (j := 0) (by first | assumption | omega))) ?_
        refine zr (zfE Tryz.underlying50 sizeOf_3) ?_
        refine zr (zlE (zI (((((lexLines b).getD i []).getD 0 f0).line : Nat) : Int)) Tryz.underlying3 sizeOf_3) ?_
        refine zM (zI (((((lexLines b).getD i []).getD 0 f0).line : Nat) : Int)) ?_
        refine zN ?_
        refine AWp.seq ?_
        refine zj 51 [(2, .lptr 2 0), (3, zI 0), (4, zI 0), (5, .list true 46 ((lexLines b).map encL)), (6, .gptr id1 0), (7, .lptr 7 0), (8, .list true 9 (cwL.map AV.str)), (9, zI (i : Int)), (31, zB (decide ((i : Int) < (((lexLines b).length : Nat) : Int)))), (10, .list false 50 (((lexLines b).getD i []).map encF)), (11, zI (((((lexLines b).getD i []).getD 0 f0).line : Nat) : Int))] [(2, [zI 0, zI 0, zI 0, zI 0, zI 0, zI 0, .list false 40 [], zI 0, zI 0, zI 0, zI 0]), (7, boolsA bs)] (setM M id1 (cells true c)) (bif (((((lexLines b).getD i []).getD 0 f0).text) == [116, 104, 114, 101, 115, 104, 111, 108, 100]) then (((((lexLines b).getD i []).length : Nat) : Int) == 2) else false) ?_ ?_
        · skip
          refine zM (.list false 50 (((lexLines b).getD i []).map encF)) ?_
          refine zr (zel 0 (encF (((lexLines b).getD i []).getD 0 f0)) Tryz.underlying46 sizeOf_50 (getD_map (l := ((lexLines b).getD i [])) (j := 0) (by first | assumption | omega))) ?_
          refine zr (zfE Tryz.underlying50 sizeOf_9) ?_
          refine zr (zlE (.str ((((lexLines b).getD i []).getD 0 f0).text)) Tryz.underlying9 sizeOf_9) ?_
          refine zr (zt (((((lexLines b).getD i []).getD 0 f0).text) == [116, 104, 114, 101, 115, 104, 111, 108, 100])) ?_
          refine zM (zB (((((lexLines b).getD i []).getD 0 f0).text) == [116, 104, 114, 101, 115, 104, 111, 108, 100])) ?_
          refine AOps.splitJ (t := 47) (b := ((((lexLines b).getD i []).getD 0 f0).text) == [116, 104, 114, 101, 115, 104, 111, 108, 100]) (x := (((((lexLines b).getD i []).length : Nat) : Int) == 2)) (y := false) rfl (fun h3 => ?_) (fun h3 => ?_)
          · skip
            have h3' : ((((lexLines b).getD i []).getD 0 f0).text) = [116, 104, 114, 101, 115, 104, 111, 108, 100] := (eq_of_beq h3)
            clear h3
            refine zM (.list false 50 (((lexLines b).getD i []).map encF)) ?_
            refine zr (zL (((lexLines b).getD i []).map encF) (((lexLines b).getD i []).length) Tryz.underlying46 (by simp)) ?_
            refine zr (zi (((((lexLines b).getD i []).length : Nat) : Int) == 2)) ?_
            refine zr (zp true (zB (((((lexLines b).getD i []).length : Nat) : Int) == 2))) ?_
            exact AOps.nil rfl
          · skip
            have h3' : ¬ (((((lexLines b).getD i []).getD 0 f0).text) = [116, 104, 114, 101, 115, 104, 111, 108, 100]) := (beq_eq_false_iff_ne.1 h3)
            clear h3
            refine zs ?_
            refine zs ?_
            refine zs ?_
            refine zr (zp false (zB false)) ?_
            exact AOps.nil rfl
        refine zC (b := bif (((((lexLines b).getD i []).getD 0 f0).text) == [116, 104, 114, 101, 115, 104, 111, 108, 100]) then (((((lexLines b).getD i []).length : Nat) : Int) == 2) else false) rfl (fun h4 => ?_) (fun h4 => ?_)
        · skip
          have h4' : IsThr (ftx ((lexLines b).getD i [])) := (thr_t h4)
          clear h4
          have hl2 := thr_2 h4'
          have hl1t := lex_texts hrd i _ (fld_mem hl2)
          refine zg ?_
          refine zM (.list false 50 (((lexLines b).getD i []).map encF)) ?_
          refine zr (zel 1 (encF (((lexLines b).getD i []).getD 1 f0)) Tryz.underlying46 sizeOf_50 (getD_map (l := ((lexLines b).getD i [])) (j := 1) (by first | assumption | omega))) ?_
          refine zr (zfE Tryz.underlying50 sizeOf_9) ?_
          refine zr (zlE (.str ((((lexLines b).getD i []).getD 1 f0).text)) Tryz.underlying9 sizeOf_9) ?_
          refine zc [.str ((((lexLines b).getD i []).getD 1 f0).text)] Tryz.call25 (rTRead_any ((((lexLines b).getD i []).getD 1 f0).text) (by omega) (setM M id1 (cells true c))) ?_
          rintro _ _ ⟨rfl, rfl⟩
          refine zM (.tuple [encT (readT ((((lexLines b).getD i []).getD 1 f0).text)), zB (decide (OkT ((((lexLines b).getD i []).getD 1 f0).text)))]) ?_
          refine zr (zx (encT (readT ((((lexLines b).getD i []).getD 1 f0).text)))) ?_
          refine zr (zx (zB (decide (OkT ((((lexLines b).getD i []).getD 1 f0).text))))) ?_
          refine zal [] zero_40 [zI 0, zI 0, zI 0, zB false, zI 0] ?_
          refine zst sizeOf_40 (encT (readT ((((lexLines b).getD i []).getD 1 f0).text))) ?_
          refine zM (zB (decide (OkT ((((lexLines b).getD i []).getD 1 f0).text)))) ?_
          refine zN ?_
          refine AWp.seq ?_
          refine zg ?_
          refine zM (zB (decide (OkT ((((lexLines b).getD i []).getD 1 f0).text)))) ?_
          refine zr (zn (decide (OkT ((((lexLines b).getD i []).getD 1 f0).text)))) ?_
          refine zN ?_
          refine zC (b := !(decide (OkT ((((lexLines b).getD i []).getD 1 f0).text)))) rfl (fun h5 => ?_) (fun h5 => ?_)
          · skip
            have h5' : ¬ OkT ((((lexLines b).getD i []).getD 1 f0).text) := (of_decide_eq_false (bnot_t h5))
            clear h5
            refine zg ?_
            refine zr (Reader.build (xs := []) (Es := [40]) (places := places_27) rfl Tryz.underlying27 (by refine ⟨rfl, fun j p x hp hx => ?_⟩; match j, hp, hx with | _ + 0, hp, hx => cases hp) zero_27 rfl places_27_ok (cs := [zI 0, zI 0, zI 0, zI 0, zI 0, zI 0, .list false 40 [], zI 0, zI 0, zI 0, zI 0]) rfl) ?_
            refine zM (zI (((((lexLines b).getD i []).getD 0 f0).line : Nat) : Int)) ?_
            refine zst sizeOf_27 (.agg [zI 0, zI 0, zI 0, zI 0, zI 0, zI 0, .list false 40 [], zI 0, zI 0, zI 0, zI 0]) ?_
            refine zM (zI (((((lexLines b).getD i []).getD 0 f0).line : Nat) : Int)) ?_
            refine zM (zI 2) ?_
            refine zN ?_
            refine AWp.ret ?_
            exact ⟨.inl rfl, _, ResOf.cellTmpTmp 2 2 0 11 27 _ _ (.agg [zI 0, zI 0, zI 0, zI 0, zI 0, zI 0, .list false 40 [], zI 0, zI 0, zI 0, zI 0]) rfl rfl Tryz.underlying27 sizeOf_27 rfl (Eq.refl true) 3 (zI (((((lexLines b).getD i []).getD 0 f0).line : Nat) : Int)) rfl rfl 4 (zI 2) rfl rfl (by decide), ⟨M, ⟨cf_line (e1 := 2) hrun (by omega) hrd (by first | exact rl_thr (by assumption) (by assumption) | exact rl_len hkk6 (by assumption) (by assumption) | exact rl_num (by assumption) (by omega) (by omega) (by assumption)) (by decide), rfl⟩, (fun i x h => sub_nn hid1n h)⟩⟩
          · skip
            have h5' : OkT ((((lexLines b).getD i []).getD 1 f0).text) := (of_decide_eq_true (bnot_f h5))
            clear h5
            refine AWp.skip ?_
            refine zg ?_
            refine zr (zfG Tryz.underlying27 sizeOf_25) ?_
            refine AOps.grabG trivial rfl (by decide) rfl Tryz.underlying25 rfl setM_get rfl rfl setM_setM ?_
            refine zr (zlL (.agg [zI ((readT ((((lexLines b).getD i []).getD 1 f0).text)).sig), zI ((readT ((((lexLines b).getD i []).getD 1 f0).text)).pct), zI ((readT ((((lexLines b).getD i []).getD 1 f0).text)).amt), zB ((readT ((((lexLines b).getD i []).getD 1 f0).text)).soft), zI ((readT ((((lexLines b).getD i []).getD 1 f0).text)).gr)]) Tryz.underlying40 sizeOf_40) ?_
            refine zbS [] [.agg [zI ((readT ((((lexLines b).getD i []).getD 1 f0).text)).sig), zI ((readT ((((lexLines b).getD i []).getD 1 f0).text)).pct), zI ((readT ((((lexLines b).getD i []).getD 1 f0).text)).amt), zB ((readT ((((lexLines b).getD i []).getD 1 f0).text)).soft), zI ((readT ((((lexLines b).getD i []).getD 1 f0).text)).gr)]] Tryz.underlying25 Tryz.i40 ?_
            refine zap (m1 := c.thr.length) (m2 := 1) 40 (c.thr.map encT) [.agg [zI ((readT ((((lexLines b).getD i []).getD 1 f0).text)).sig), zI ((readT ((((lexLines b).getD i []).getD 1 f0).text)).pct), zI ((readT ((((lexLines b).getD i []).getD 1 f0).text)).amt), zB ((readT ((((lexLines b).getD i []).getD 1 f0).text)).soft), zI ((readT ((((lexLines b).getD i []).getD 1 f0).text)).gr)]] ((c.thr ++ [readT (((lexLines b).getD i []).getD 1 f0).text]).map encT) Tryz.underlying25 Tryz.underlying25 Tryz.i40 (by simp) rfl (by rw [List.map_append]; rfl) ?_
            refine zr (zfG Tryz.underlying27 sizeOf_25) ?_
            refine AOps.storeOwn trivial rfl rfl rfl setM_get sizeOf_25 rfl (Nat.le_of_ble_eq_true rfl) setM_setM ?_
            refine zN ?_
            refine AWp.exit ?_
            refine AWp.region ?_
            refine zM (zI (i : Int)) ?_
            refine zr (zw ((i : Int) + 1) ((i + 1 : Nat) : Int)) ?_
            refine zM (zI ((i + 1 : Nat) : Int)) ?_
            refine zN ?_
            first | exact ⟨_, by omega, i + 1, { c with thr := c.thr ++ [readT (((lexLines b).getD i []).getD 1 f0).text] }, sn, bs, rfl, rfl, by omega, rl_step1 hrun (by omega) (by assumption) (by assumption), hsn, by simp; omega, hbs⟩ | exact ⟨_, by omega, i + 1, c2, sn ++ [(((lexLines b).getD i []).getD 0 f0).text], bs.set kk.toNat true, rfl, rfl, by omega, rl_step2 hrun (by omega) hkk6 (by assumption) hz (by omega) hq (by assumption) hc2, rl_seen hkk6 hz hsn (by assumption), by rw [hc2t]; omega, sb_step hkk6 (by omega) hbs⟩
        · skip
          have h4' : ¬ IsThr (ftx ((lexLines b).getD i [])) := (thr_f h4)
          clear h4
          refine AWp.skip ?_
          refine zg ?_
          refine zM (zI (-1)) ?_
          refine zN ?_
          refine AWp.seq ?_
          refine zg ?_
          refine zM (zI 0) ?_
          refine zN ?_
          refine AWp.block ?_
          refine AWp.loopE [2, 3, 4, 5, 6, 7, 8, 9, 10, 11, 14, 15] [2, 7] (fun m s => ∃ (j : Nat) (kk : Int), m = 6 - j ∧ s = ⟨[(2, .lptr 2 0), (3, zI 0), (4, zI 0), (5, .list true 46 ((lexLines b).map encL)), (6, .gptr id1 0), (7, .lptr 7 0), (8, .list true 9 (cwL.map AV.str)), (9, zI (i : Int)), (10, .list false 50 (((lexLines b).getD i []).map encF)), (11, zI (((((lexLines b).getD i []).getD 0 f0).line : Nat) : Int)), (14, zI kk), (15, zI (j : Int))], [(2, [zI 0, zI 0, zI 0, zI 0, zI 0, zI 0, .list false 40 [], zI 0, zI 0, zI 0, zI 0]), (7, boolsA bs)], (setM M id1 (cells true c))⟩ ∧ (j ≤ 6) ∧ (kk = kTo (((lexLines b).getD i []).getD 0 f0).text j)) ?_ ?_
          · exact ⟨_, 0, -1, rfl, rfl, Nat.zero_le _, kto_0⟩
          · rintro _ _ ⟨j, kk, rfl, rfl, hj, hkk⟩
            have hlp := lex_pos (b := b) (i := i) (by omega)
            refine AWp.seq ?_
            refine zg ?_
            refine zM (zI (j : Int)) ?_
            refine zr (zi (decide ((j : Int) < 6))) ?_
            refine zN ?_
            refine zC (b := decide ((j : Int) < 6)) rfl (fun h6 => ?_) (fun h6 => ?_)
            · skip
              have h6' : j < 6 := (by have hh := of_decide_eq_true h6; omega)
              clear h6
              refine AWp.skip ?_
              refine AWp.seq ?_
              refine AWp.block ?_
              refine AWp.seq (AWp.drawnAll (by kernel_rfl) (by kernel_rfl) ?_)
              refine ze (zm (.list false 9 (cwL.map AV.str))) ?_
              refine ze (zm (zI (j : Int))) ?_
              refine ze (zel j (.str (cwL.getD j [])) Tryz.underlying38 sizeOf_9 (strs_at (by first | omega | (show _ < 6; omega)))) ?_
              refine ze (zlE (.str (cwL.getD j [])) Tryz.underlying9 sizeOf_9) ?_
              refine ze (zm (.list false 50 (((lexLines b).getD i []).map encF))) ?_
              refine ze (zel 0 (encF (((lexLines b).getD i []).getD 0 f0)) Tryz.underlying46 sizeOf_50 (getD_map (l := ((lexLines b).getD i [])) (j := 0) (by first | assumption | omega))) ?_
              refine ze (zfE Tryz.underlying50 sizeOf_9) ?_
              refine ze (zlE (.str ((((lexLines b).getD i []).getD 0 f0).text)) Tryz.underlying9 sizeOf_9) ?_
              refine ze (zt ((cwL.getD j []) == ((((lexLines b).getD i []).getD 0 f0).text))) ?_
              refine AOpsE.nil ?_
              refine zC (b := (cwL.getD j []) == ((((lexLines b).getD i []).getD 0 f0).text)) rfl (fun h7 => ?_) (fun h7 => ?_)
              · skip
                have h7' : (cwL.getD j []) = ((((lexLines b).getD i []).getD 0 f0).text) := (eq_of_beq h7)
                clear h7
                refine AWp.region ?_
                refine zM (zI (j : Int)) ?_
                refine zM (zI (j : Int)) ?_
                refine zN ?_
                refine AWp.region ?_
                refine zM (zI (j : Int)) ?_
                refine zr (zw ((j : Int) + 1) ((j + 1 : Nat) : Int)) ?_
                refine zM (zI ((j + 1 : Nat) : Int)) ?_
                refine zN ?_
                first | exact ⟨_, by omega, j + 1, (j : Int), rfl, rfl, by omega, kto_hit (by omega) (by assumption)⟩ | exact ⟨_, by omega, j + 1, kk, rfl, rfl, by omega, kto_miss (by omega) hkk (by assumption)⟩
              · skip
                have h7' : ¬ ((cwL.getD j []) = ((((lexLines b).getD i []).getD 0 f0).text)) := (beq_eq_false_iff_ne.1 h7)
                clear h7
                refine AWp.skip ?_
                refine AWp.region ?_
                refine zM (zI (j : Int)) ?_
                refine zr (zw ((j : Int) + 1) ((j + 1 : Nat) : Int)) ?_
                refine zM (zI ((j + 1 : Nat) : Int)) ?_
                refine zN ?_
                first | exact ⟨_, by omega, j + 1, (j : Int), rfl, rfl, by omega, kto_hit (by omega) (by assumption)⟩ | exact ⟨_, by omega, j + 1, kk, rfl, rfl, by omega, kto_miss (by omega) hkk (by assumption)⟩
            · skip
              have h6' : ¬ (j < 6) := (by have hh := of_decide_eq_false h6; omega)
              clear h6
              refine AWp.exit ?_
              have hkk6 : kk = kOf (((lexLines b).getD i []).getD 0 f0).text := hkk.trans (kto_6 (by omega))
              have hk5 := k_le (((lexLines b).getD i []).getD 0 f0).text
              have hlp := lex_pos (b := b) (i := i) (by omega)
              have hlm := lex_fl b i
              refine AWp.seq ?_
              refine zj 103 [(2, .lptr 2 0), (3, zI 0), (4, zI 0), (5, .list true 46 ((lexLines b).map encL)), (6, .gptr id1 0), (7, .lptr 7 0), (8, .list true 9 (cwL.map AV.str)), (9, zI (i : Int)), (10, .list false 50 (((lexLines b).getD i []).map encF)), (11, zI (((((lexLines b).getD i []).getD 0 f0).line : Nat) : Int)), (14, zI kk), (15, zI (j : Int)), (71, zB (decide ((j : Int) < 6)))] [(2, [zI 0, zI 0, zI 0, zI 0, zI 0, zI 0, .list false 40 [], zI 0, zI 0, zI 0, zI 0]), (7, boolsA bs)] (setM M id1 (cells true c)) (bif (decide (kk < 0)) then true else (bif (decide (kk < 2)) then (bif (((((lexLines b).getD i []).length : Nat) : Int) != 4) then true else (bif (decide (kk ≥ 2)) then (((((lexLines b).getD i []).length : Nat) : Int) != 2) else false)) else (bif (decide (kk ≥ 2)) then (((((lexLines b).getD i []).length : Nat) : Int) != 2) else false))) ?_ ?_
              · skip
                refine zM (zI kk) ?_
                refine zr (zi (decide (kk < 0))) ?_
                refine zM (zB (decide (kk < 0))) ?_
                refine AOps.splitJ (t := 86) (b := decide (kk < 0)) (x := true) (y := (bif (decide (kk < 2)) then (bif (((((lexLines b).getD i []).length : Nat) : Int) != 4) then true else (bif (decide (kk ≥ 2)) then (((((lexLines b).getD i []).length : Nat) : Int) != 2) else false)) else (bif (decide (kk ≥ 2)) then (((((lexLines b).getD i []).length : Nat) : Int) != 2) else false))) rfl (fun h8 => ?_) (fun h8 => ?_)
                · skip
                  have h8' : kk < 0 := (by have hh := of_decide_eq_true h8; omega)
                  clear h8
                  refine zs ?_
                  refine zs ?_
                  refine zs ?_
                  refine zs ?_
                  refine zs ?_
                  refine zs ?_
                  refine zs ?_
                  refine zr (zp true (zB true)) ?_
                  refine zM (zB true) ?_
                  refine zs ?_
                  refine zs ?_
                  refine zs ?_
                  refine zs ?_
                  refine zs ?_
                  refine zs ?_
                  refine zs ?_
                  refine zr (zp true (zB true)) ?_
                  exact AOps.nil rfl
                · skip
                  have h8' : ¬ (kk < 0) := (by have hh := of_decide_eq_false h8; omega)
                  clear h8
                  refine zM (zI kk) ?_
                  refine zr (zi (decide (kk < 2))) ?_
                  refine zM (zB (decide (kk < 2))) ?_
                  refine AOps.splitJ (t := 89) (b := decide (kk < 2)) (x := (bif (((((lexLines b).getD i []).length : Nat) : Int) != 4) then true else (bif (decide (kk ≥ 2)) then (((((lexLines b).getD i []).length : Nat) : Int) != 2) else false))) (y := (bif (decide (kk ≥ 2)) then (((((lexLines b).getD i []).length : Nat) : Int) != 2) else false)) rfl (fun h9 => ?_) (fun h9 => ?_)
                  · skip
                    have h9' : kk < 2 := (by have hh := of_decide_eq_true h9; omega)
                    clear h9
                    refine zM (.list false 50 (((lexLines b).getD i []).map encF)) ?_
                    refine zr (zL (((lexLines b).getD i []).map encF) (((lexLines b).getD i []).length) Tryz.underlying46 (by simp)) ?_
                    refine zr (zi (((((lexLines b).getD i []).length : Nat) : Int) != 4)) ?_
                    refine zr (zp true (zB (((((lexLines b).getD i []).length : Nat) : Int) != 4))) ?_
                    refine zr (zp false (zB (((((lexLines b).getD i []).length : Nat) : Int) != 4))) ?_
                    refine zM (zB (((((lexLines b).getD i []).length : Nat) : Int) != 4)) ?_
                    refine AOps.splitJ (t := 95) (b := ((((lexLines b).getD i []).length : Nat) : Int) != 4) (x := true) (y := (bif (decide (kk ≥ 2)) then (((((lexLines b).getD i []).length : Nat) : Int) != 2) else false)) rfl (fun h10 => ?_) (fun h10 => ?_)
                    · skip
                      have h10' : (((lexLines b).getD i []).length) ≠ 4 := (by have hh := bne_iff_ne.1 h10; omega)
                      clear h10
                      refine zs ?_
                      refine zs ?_
                      refine zs ?_
                      refine zs ?_
                      refine zs ?_
                      refine zs ?_
                      refine zs ?_
                      refine zr (zp true (zB true)) ?_
                      exact AOps.nil rfl
                    · skip
                      have h10' : ¬ ((((lexLines b).getD i []).length) ≠ 4) := (by have hh := bne_eq_false_iff_eq.1 h10; omega)
                      clear h10
                      refine zM (zI kk) ?_
                      refine zr (zi (decide (kk ≥ 2))) ?_
                      refine zM (zB (decide (kk ≥ 2))) ?_
                      refine AOps.splitJ (t := 98) (b := decide (kk ≥ 2)) (x := (((((lexLines b).getD i []).length : Nat) : Int) != 2)) (y := false) rfl (fun h11 => ?_) (fun h11 => ?_)
                      · skip
                        have h11' : kk ≥ 2 := (by have hh := of_decide_eq_true h11; omega)
                        clear h11
                        refine zM (.list false 50 (((lexLines b).getD i []).map encF)) ?_
                        refine zr (zL (((lexLines b).getD i []).map encF) (((lexLines b).getD i []).length) Tryz.underlying46 (by simp)) ?_
                        refine zr (zi (((((lexLines b).getD i []).length : Nat) : Int) != 2)) ?_
                        refine zr (zp true (zB (((((lexLines b).getD i []).length : Nat) : Int) != 2))) ?_
                        refine zr (zp false (zB (((((lexLines b).getD i []).length : Nat) : Int) != 2))) ?_
                        exact AOps.nil rfl
                      · skip
                        have h11' : ¬ (kk ≥ 2) := (by have hh := of_decide_eq_false h11; omega)
                        clear h11
                        refine zs ?_
                        refine zs ?_
                        refine zs ?_
                        refine zr (zp false (zB false)) ?_
                        refine zr (zp false (zB false)) ?_
                        exact AOps.nil rfl
                  · skip
                    have h9' : ¬ (kk < 2) := (by have hh := of_decide_eq_false h9; omega)
                    clear h9
                    refine zs ?_
                    refine zs ?_
                    refine zs ?_
                    refine zr (zp false (zB false)) ?_
                    refine zr (zp false (zB false)) ?_
                    refine zM (zB false) ?_
                    refine zM (zI kk) ?_
                    refine zr (zi (decide (kk ≥ 2))) ?_
                    refine zM (zB (decide (kk ≥ 2))) ?_
                    refine AOps.splitJ (t := 98) (b := decide (kk ≥ 2)) (x := (((((lexLines b).getD i []).length : Nat) : Int) != 2)) (y := false) rfl (fun h12 => ?_) (fun h12 => ?_)
                    · skip
                      have h12' : kk ≥ 2 := (by have hh := of_decide_eq_true h12; omega)
                      clear h12
                      refine zM (.list false 50 (((lexLines b).getD i []).map encF)) ?_
                      refine zr (zL (((lexLines b).getD i []).map encF) (((lexLines b).getD i []).length) Tryz.underlying46 (by simp)) ?_
                      refine zr (zi (((((lexLines b).getD i []).length : Nat) : Int) != 2)) ?_
                      refine zr (zp true (zB (((((lexLines b).getD i []).length : Nat) : Int) != 2))) ?_
                      refine zr (zp false (zB (((((lexLines b).getD i []).length : Nat) : Int) != 2))) ?_
                      exact AOps.nil rfl
                    · skip
                      have h12' : ¬ (kk ≥ 2) := (by have hh := of_decide_eq_false h12; omega)
                      clear h12
                      refine zs ?_
                      refine zs ?_
                      refine zs ?_
                      refine zr (zp false (zB false)) ?_
                      refine zr (zp false (zB false)) ?_
                      exact AOps.nil rfl
              have hz1 : (bif (decide (kk < 0)) then true else (bif (decide (kk < 2)) then (bif (((((lexLines b).getD i []).length : Nat) : Int) != 4) then true else (bif (decide (kk ≥ 2)) then (((((lexLines b).getD i []).length : Nat) : Int) != 2) else false)) else (bif (decide (kk ≥ 2)) then (((((lexLines b).getD i []).length : Nat) : Int) != 2) else false))) = decide (kk < 0 ∨ (kk < 2 ∧ ((lexLines b).getD i []).length ≠ 4) ∨ (kk ≥ 2 ∧ ((lexLines b).getD i []).length ≠ 2)) := by rw [Bool.eq_iff_iff, decide_eq_true_iff]; simp only [Bool.cond_eq_ite]; (repeat' split) <;> simp_all <;> omega
              refine zC (b := bif (decide (kk < 0)) then true else (bif (decide (kk < 2)) then (bif (((((lexLines b).getD i []).length : Nat) : Int) != 4) then true else (bif (decide (kk ≥ 2)) then (((((lexLines b).getD i []).length : Nat) : Int) != 2) else false)) else (bif (decide (kk ≥ 2)) then (((((lexLines b).getD i []).length : Nat) : Int) != 2) else false))) rfl (fun h13 => ?_) (fun h13 => ?_)
              · skip
                have h13' : kk < 0 ∨ (kk < 2 ∧ ((lexLines b).getD i []).length ≠ 4) ∨ (kk ≥ 2 ∧ ((lexLines b).getD i []).length ≠ 2) := (of_decide_eq_true (hz1.symm.trans h13))
                clear h13
                refine zg ?_
                refine zr (Reader.build (xs := []) (Es := [40]) (places := places_27) rfl Tryz.underlying27 (by refine ⟨rfl, fun j p x hp hx => ?_⟩; match j, hp, hx with | _ + 0, hp, hx => cases hp) zero_27 rfl places_27_ok (cs := [zI 0, zI 0, zI 0, zI 0, zI 0, zI 0, .list false 40 [], zI 0, zI 0, zI 0, zI 0]) rfl) ?_
                refine zM (zI (((((lexLines b).getD i []).getD 0 f0).line : Nat) : Int)) ?_
                refine zst sizeOf_27 (.agg [zI 0, zI 0, zI 0, zI 0, zI 0, zI 0, .list false 40 [], zI 0, zI 0, zI 0, zI 0]) ?_
                refine zM (zI (((((lexLines b).getD i []).getD 0 f0).line : Nat) : Int)) ?_
                refine zM (zI 2) ?_
                refine zN ?_
                refine AWp.ret ?_
                exact ⟨.inl rfl, _, ResOf.cellTmpTmp 2 2 0 11 27 _ _ (.agg [zI 0, zI 0, zI 0, zI 0, zI 0, zI 0, .list false 40 [], zI 0, zI 0, zI 0, zI 0]) rfl rfl Tryz.underlying27 sizeOf_27 rfl (Eq.refl true) 3 (zI (((((lexLines b).getD i []).getD 0 f0).line : Nat) : Int)) rfl rfl 4 (zI 2) rfl rfl (by decide), ⟨M, ⟨cf_line (e1 := 2) hrun (by omega) hrd (by first | exact rl_thr (by assumption) (by assumption) | exact rl_len hkk6 (by assumption) (by assumption) | exact rl_num (by assumption) (by omega) (by omega) (by assumption)) (by decide), rfl⟩, (fun i x h => sub_nn hid1n h)⟩⟩
              · skip
                have h13' : ¬ (kk < 0 ∨ (kk < 2 ∧ ((lexLines b).getD i []).length ≠ 4) ∨ (kk ≥ 2 ∧ ((lexLines b).getD i []).length ≠ 2)) := (of_decide_eq_false (hz1.symm.trans h13))
                clear h13
                have hz := h13'
                refine AWp.skip ?_
                refine zg ?_
                refine AOps.nilList 3 trivial rfl (by decide) (.inl rfl) ?_
                refine zN ?_
                refine AWp.seq ?_
                refine zg ?_
                refine zM (zI 1) ?_
                refine zN ?_
                refine AWp.block ?_
                refine AWp.loopE [2, 3, 4, 5, 6, 7, 8, 9, 10, 11, 14, 16, 17] [2, 7] (fun m s => ∃ (u : Nat), m = ((lexLines b).getD i []).length - u ∧ s = ⟨[(2, .lptr 2 0), (3, zI 0), (4, zI 0), (5, .list true 46 ((lexLines b).map encL)), (6, .gptr id1 0), (7, .lptr 7 0), (8, .list true 9 (cwL.map AV.str)), (9, zI (i : Int)), (10, .list false 50 (((lexLines b).getD i []).map encF)), (11, zI (((((lexLines b).getD i []).getD 0 f0).line : Nat) : Int)), (14, zI kk), (16, .list true 3 ((vI ((lexLines b).getD i []) u).map (fun x => AV.lit (.int .i64 x)))), (17, zI (u : Int))], [(2, [zI 0, zI 0, zI 0, zI 0, zI 0, zI 0, .list false 40 [], zI 0, zI 0, zI 0, zI 0]), (7, boolsA bs)], (setM M id1 (cells true c))⟩ ∧ (1 ≤ u) ∧ (u ≤ ((lexLines b).getD i []).length) ∧ (∀ p, 1 ≤ p → p < u → qe (((lexLines b).getD i []).getD p f0).text = 0)) ?_ ?_
                · exact ⟨_, 1, rfl, rfl, Nat.le_refl _, by omega, fun p h1 h2 => by omega⟩
                · rintro _ _ ⟨u, rfl, rfl, hu1, hu, hq⟩
                  have hlt : ∀ f ∈ ((lexLines b).getD i []), f.text.length ≤ 4294967280 := lex_texts hrd i
                  have hut : (((lexLines b).getD i []).getD u f0).text.length ≤ 4294967280 := fld_len hlt u
                  refine AWp.seq ?_
                  refine zg ?_
                  refine zM (zI (u : Int)) ?_
                  refine zM (.list false 50 (((lexLines b).getD i []).map encF)) ?_
                  refine zr (zL (((lexLines b).getD i []).map encF) (((lexLines b).getD i []).length) Tryz.underlying46 (by simp)) ?_
                  refine zr (zi (decide ((u : Int) < ((((lexLines b).getD i []).length : Nat) : Int)))) ?_
                  refine zN ?_
                  refine zC (b := decide ((u : Int) < ((((lexLines b).getD i []).length : Nat) : Int))) rfl (fun h14 => ?_) (fun h14 => ?_)
                  · skip
                    have h14' : u < (((lexLines b).getD i []).length) := (by have hh := of_decide_eq_true h14; omega)
                    clear h14
                    refine AWp.skip ?_
                    refine AWp.seq ?_
                    refine AWp.block ?_
                    refine zg ?_
                    refine zM (.list false 50 (((lexLines b).getD i []).map encF)) ?_
                    refine zM (zI (u : Int)) ?_
                    refine zr (zel u (encF (((lexLines b).getD i []).getD u f0)) Tryz.underlying46 sizeOf_50 (getD_map (l := ((lexLines b).getD i [])) (j := u) (by first | assumption | omega))) ?_
                    refine zr (zfE Tryz.underlying50 sizeOf_9) ?_
                    refine zr (zlE (.str ((((lexLines b).getD i []).getD u f0).text)) Tryz.underlying9 sizeOf_9) ?_
                    refine zc [.str ((((lexLines b).getD i []).getD u f0).text)] Tryz.call26 (rRead_any ((((lexLines b).getD i []).getD u f0).text) (by omega) (setM M id1 (cells true c))) ?_
                    rintro _ _ ⟨rfl, rfl⟩
                    refine zM (.tuple [zI ((qv ((((lexLines b).getD i []).getD u f0).text) : Nat) : Int), zB ((quantV ((((lexLines b).getD i []).getD u f0).text)).isSome)]) ?_
                    refine zr (zx (zI ((qv ((((lexLines b).getD i []).getD u f0).text) : Nat) : Int))) ?_
                    refine zr (zx (zB ((quantV ((((lexLines b).getD i []).getD u f0).text)).isSome))) ?_
                    refine zM (zI ((qv ((((lexLines b).getD i []).getD u f0).text) : Nat) : Int)) ?_
                    refine zM (zB ((quantV ((((lexLines b).getD i []).getD u f0).text)).isSome)) ?_
                    refine zN ?_
                    refine AWp.seq ?_
                    refine zg ?_
                    refine zM (zB ((quantV ((((lexLines b).getD i []).getD u f0).text)).isSome)) ?_
                    refine zr (zn ((quantV ((((lexLines b).getD i []).getD u f0).text)).isSome)) ?_
                    refine zN ?_
                    refine zC (b := !((quantV ((((lexLines b).getD i []).getD u f0).text)).isSome)) rfl (fun h15 => ?_) (fun h15 => ?_)
                    · skip
                      have h15' : (quantV ((((lexLines b).getD i []).getD u f0).text)).isSome = false := (bnot_t h15)
                      clear h15
                      refine zg ?_
                      refine zr (Reader.build (xs := []) (Es := [40]) (places := places_27) rfl Tryz.underlying27 (by refine ⟨rfl, fun j p x hp hx => ?_⟩; match j, hp, hx with | _ + 0, hp, hx => cases hp) zero_27 rfl places_27_ok (cs := [zI 0, zI 0, zI 0, zI 0, zI 0, zI 0, .list false 40 [], zI 0, zI 0, zI 0, zI 0]) rfl) ?_
                      refine zM (zI (((((lexLines b).getD i []).getD 0 f0).line : Nat) : Int)) ?_
                      refine zst sizeOf_27 (.agg [zI 0, zI 0, zI 0, zI 0, zI 0, zI 0, .list false 40 [], zI 0, zI 0, zI 0, zI 0]) ?_
                      refine zM (zI (((((lexLines b).getD i []).getD 0 f0).line : Nat) : Int)) ?_
                      refine zM (zI 2) ?_
                      refine zN ?_
                      refine AWp.ret ?_
                      exact ⟨.inl rfl, _, ResOf.cellTmpTmp 2 2 0 11 27 _ _ (.agg [zI 0, zI 0, zI 0, zI 0, zI 0, zI 0, .list false 40 [], zI 0, zI 0, zI 0, zI 0]) rfl rfl Tryz.underlying27 sizeOf_27 rfl (Eq.refl true) 3 (zI (((((lexLines b).getD i []).getD 0 f0).line : Nat) : Int)) rfl rfl 4 (zI 2) rfl rfl (by decide), ⟨M, ⟨cf_line (e1 := 2) hrun (by omega) hrd (by first | exact rl_thr (by assumption) (by assumption) | exact rl_len hkk6 (by assumption) (by assumption) | exact rl_num (by assumption) (by omega) (by omega) (by assumption)) (by decide), rfl⟩, (fun i x h => sub_nn hid1n h)⟩⟩
                    · skip
                      have h15' : (quantV ((((lexLines b).getD i []).getD u f0).text)).isSome = true := (bnot_f h15)
                      clear h15
                      refine AWp.skip ?_
                      refine AWp.region ?_
                      refine zT (v := .list true 3 ((vI ((lexLines b).getD i []) u).map (fun x => AV.lit (.int .i64 x)))) rfl ?_
                      refine zM (zI ((qv ((((lexLines b).getD i []).getD u f0).text) : Nat) : Int)) ?_
                      refine zbS [] [zI ((qv ((((lexLines b).getD i []).getD u f0).text) : Nat) : Int)] Tryz.underlying58 Tryz.i3 ?_
                      refine zap (m1 := (u - 1)) (m2 := 1) 8 ((vI ((lexLines b).getD i []) u).map (fun x => AV.lit (.int .i64 x))) [zI ((qv ((((lexLines b).getD i []).getD u f0).text) : Nat) : Int)] ((vI ((lexLines b).getD i []) (u + 1)).map (fun x => AV.lit (.int .i64 x))) Tryz.underlying58 Tryz.underlying58 Tryz.i3 (by rw [List.length_map, vI_len (by omega)]) rfl (vI_snoc (by omega) (by omega)) ?_
                      refine zT (v := .list true 3 ((vI ((lexLines b).getD i []) (u + 1)).map (fun x => AV.lit (.int .i64 x)))) rfl ?_
                      refine zN ?_
                      refine AWp.region ?_
                      refine zM (zI (u : Int)) ?_
                      refine zr (zw ((u : Int) + 1) ((u + 1 : Nat) : Int)) ?_
                      refine zM (zI ((u + 1 : Nat) : Int)) ?_
                      refine zN ?_
                      exact ⟨_, by omega, u + 1, rfl, rfl, by omega, by omega, rl_next hq (by assumption)⟩
                  · skip
                    have h14' : ¬ (u < (((lexLines b).getD i []).length)) := (by have hh := of_decide_eq_false h14; omega)
                    clear h14
                    refine AWp.exit ?_
                    refine AWp.seq ?_
                    refine zg ?_
                    refine zM (zI kk) ?_
                    refine zr (Reader.indexL (m := kk.toNat) rfl Tryz.underlying54 sizeOf_4 rfl rfl (by omega) (by omega)) ?_
                    refine zr (Reader.loadL rfl Tryz.underlying4 sizeOf_4 rfl rfl (v := zB (bs.getD kk.toNat false)) (loaded_bool (by omega) (by have hb6 := hbs.1; omega)) rfl) ?_
                    refine zN ?_
                    refine zC (b := (bs.getD kk.toNat false)) rfl (fun h16 => ?_) (fun h16 => ?_)
                    · skip
                      have h16' : (((lexLines b).getD i []).getD 0 f0).text ∈ sn := (sb_t hkk6 (by omega) hbs h16)
                      clear h16
                      refine zg ?_
                      refine zr (Reader.build (xs := []) (Es := [40]) (places := places_27) rfl Tryz.underlying27 (by refine ⟨rfl, fun j p x hp hx => ?_⟩; match j, hp, hx with | _ + 0, hp, hx => cases hp) zero_27 rfl places_27_ok (cs := [zI 0, zI 0, zI 0, zI 0, zI 0, zI 0, .list false 40 [], zI 0, zI 0, zI 0, zI 0]) rfl) ?_
                      refine zM (zI (((((lexLines b).getD i []).getD 0 f0).line : Nat) : Int)) ?_
                      refine zst sizeOf_27 (.agg [zI 0, zI 0, zI 0, zI 0, zI 0, zI 0, .list false 40 [], zI 0, zI 0, zI 0, zI 0]) ?_
                      refine zM (zI (((((lexLines b).getD i []).getD 0 f0).line : Nat) : Int)) ?_
                      refine zM (zI 5) ?_
                      refine zN ?_
                      refine AWp.ret ?_
                      exact ⟨.inl rfl, _, ResOf.cellTmpTmp 2 2 0 11 27 _ _ (.agg [zI 0, zI 0, zI 0, zI 0, zI 0, zI 0, .list false 40 [], zI 0, zI 0, zI 0, zI 0]) rfl rfl Tryz.underlying27 sizeOf_27 rfl (Eq.refl true) 3 (zI (((((lexLines b).getD i []).getD 0 f0).line : Nat) : Int)) rfl rfl 4 (zI 5) rfl rfl (by decide), ⟨M, ⟨cf_line (e1 := 5) hrun (by omega) hrd (rl_twice hkk6 (by assumption) hz (by omega) hq (by assumption) (by omega)) (by decide), rfl⟩, (fun i x h => sub_nn hid1n h)⟩⟩
                    · skip
                      have h16' : (((lexLines b).getD i []).getD 0 f0).text ∉ sn := (sb_f hkk6 (by omega) hbs h16)
                      clear h16
                      refine AWp.skip ?_
                      refine zg ?_
                      refine zM (zI kk) ?_
                      refine zr (Reader.indexL (m := kk.toNat) rfl Tryz.underlying54 sizeOf_4 rfl rfl (by omega) (by omega)) ?_
                      refine AOps.storeLE (cells' := boolsA (bs.set kk.toNat true)) trivial rfl rfl rfl rfl sizeOf_4 (.inl ⟨rfl, rfl⟩) rfl (v := zB true) rfl (all_flat rfl) rfl (by rw [boolsA_len, hbs.1]; omega) (splice_bool (by omega) (by have hb6 := hbs.1; omega)) ?_
                      refine zN ?_
                      refine AWp.region ?_
                      refine AOps.pinG (j := 6) (cells := [zI c.c0, zI c.c1, zI c.c2, zI c.a0, zI c.a1, zI c.a2, .list true 40 (c.thr.map encT), zI c.per, zI c.ret, zI c.age, zI c.ded]) (M' := fun po pm pc => (setM M id1 [zI c.c0, zI c.c1, zI c.c2, zI c.a0, zI c.a1, zI c.a2, .lit (.slice po pm pc), zI c.per, zI c.ret, zI c.age, zI c.ded])) setM_get rfl (fun po pm pc => setM_setM) (fun po pm pc => ?_)
                      refine zr (zlG (.agg [zI c.c0, zI c.c1, zI c.c2, zI c.a0, zI c.a1, zI c.a2, .lit (.slice po pm pc), zI c.per, zI c.ret, zI c.age, zI c.ded]) Tryz.underlying27 sizeOf_27 setM_get) ?_
                      refine zM (zI kk) ?_
                      refine zM (.list false 3 ((vI ((lexLines b).getD i []) u).map (fun x => AV.lit (.int .i64 x)))) ?_
                      refine zc [.agg [zI c.c0, zI c.c1, zI c.c2, zI c.a0, zI c.a1, zI c.a2, .lit (.slice po pm pc), zI c.per, zI c.ret, zI c.age, zI c.ded], zI kk, .list false 3 ((vI ((lexLines b).getD i []) u).map (fun x => AV.lit (.int .i64 x)))] Tryz.call27 (rset_any c po pm pc kk (by omega) (vI ((lexLines b).getD i []) u) (by rw [vI_len (by omega)]; split <;> omega) (setM M id1 [zI c.c0, zI c.c1, zI c.c2, zI c.a0, zI c.a1, zI c.a2, .lit (.slice po pm pc), zI c.per, zI c.ret, zI c.age, zI c.ded])) ?_
                      rintro _ _ ⟨c2, rfl, hc2, hc2t, rfl⟩
                      refine AOps.storeG trivial rfl rfl rfl setM_get sizeOf_27 (.inl ⟨rfl, rfl⟩) rfl (v := .agg (cellsV c2 (.slice po pm pc))) rfl (all_flat rfl) rfl (Nat.le_of_ble_eq_true rfl) setM_setM ?_
                      refine zN ⟨_, (setM M id1 [zI c2.c0, zI c2.c1, zI c2.c2, zI c2.a0, zI c2.a1, zI c2.a2, .list true 40 (c2.thr.map encT), zI c2.per, zI c2.ret, zI c2.age, zI c2.ded]), setM_get, rfl, rfl, (by rw [← hc2t]; exact setM_setM), ?_⟩
                      refine AWp.region ?_
                      refine zM (zI (i : Int)) ?_
                      refine zr (zw ((i : Int) + 1) ((i + 1 : Nat) : Int)) ?_
                      refine zM (zI ((i + 1 : Nat) : Int)) ?_
                      refine zN ?_
                      first | exact ⟨_, by omega, i + 1, { c with thr := c.thr ++ [readT (((lexLines b).getD i []).getD 1 f0).text] }, sn, bs, rfl, rfl, by omega, rl_step1 hrun (by omega) (by assumption) (by assumption), hsn, by simp; omega, hbs⟩ | exact ⟨_, by omega, i + 1, c2, sn ++ [(((lexLines b).getD i []).getD 0 f0).text], bs.set kk.toNat true, rfl, rfl, by omega, rl_step2 hrun (by omega) hkk6 (by assumption) hz (by omega) hq (by assumption) hc2, rl_seen hkk6 hz hsn (by assumption), by rw [hc2t]; omega, sb_step hkk6 (by omega) hbs⟩
      · skip
        have h2' : ¬ (i < ((lexLines b).length)) := (by have hh := of_decide_eq_false h2; omega)
        clear h2
        refine AWp.exit ?_
        refine AWp.seq ?_
        refine zg ?_
        refine zM (zI 0) ?_
        refine zN ?_
        refine AWp.block ?_
        refine AWp.loopE [2, 3, 4, 5, 6, 7, 8, 20] [2, 7] (fun m s => ∃ (u : Nat), m = 6 - u ∧ s = ⟨[(2, .lptr 2 0), (3, zI 0), (4, zI 0), (5, .list true 46 ((lexLines b).map encL)), (6, .gptr id1 0), (7, .lptr 7 0), (8, .list true 9 (cwL.map AV.str)), (20, zI (u : Int))], [(2, [zI 0, zI 0, zI 0, zI 0, zI 0, zI 0, .list false 40 [], zI 0, zI 0, zI 0, zI 0]), (7, boolsA bs)], (setM M id1 (cells true c))⟩ ∧ (u ≤ 6) ∧ (∀ j, j < u → bs.getD j false = true)) ?_ ?_
        · exact ⟨_, 0, rfl, rfl, Nat.zero_le _, fun j hj => by omega⟩
        · rintro _ _ ⟨u, rfl, rfl, hu, hall⟩
          refine AWp.seq ?_
          refine zg ?_
          refine zM (zI (u : Int)) ?_
          refine zr (zi (decide ((u : Int) < 6))) ?_
          refine zN ?_
          refine zC (b := decide ((u : Int) < 6)) rfl (fun h17 => ?_) (fun h17 => ?_)
          · skip
            have h17' : u < 6 := (by have hh := of_decide_eq_true h17; omega)
            clear h17
            refine AWp.skip ?_
            refine AWp.seq ?_
            refine AWp.block ?_
            refine zg ?_
            refine zM (zI (u : Int)) ?_
            refine zr (Reader.indexL (m := u) rfl Tryz.underlying54 sizeOf_4 rfl rfl rfl (by omega)) ?_
            refine zr (Reader.loadL rfl Tryz.underlying4 sizeOf_4 rfl rfl (v := zB (bs.getD u false)) (loaded_bool (by omega) (by have hb6 := hbs.1; omega)) rfl) ?_
            refine zr (zn (bs.getD u false)) ?_
            refine zN ?_
            refine zC (b := !(bs.getD u false)) rfl (fun h18 => ?_) (fun h18 => ?_)
            · skip
              have h18' : bs.getD u false = false := (bnot_t h18)
              clear h18
              refine zg ?_
              refine zr (Reader.build (xs := []) (Es := [40]) (places := places_27) rfl Tryz.underlying27 (by refine ⟨rfl, fun j p x hp hx => ?_⟩; match j, hp, hx with | _ + 0, hp, hx => cases hp) zero_27 rfl places_27_ok (cs := [zI 0, zI 0, zI 0, zI 0, zI 0, zI 0, .list false 40 [], zI 0, zI 0, zI 0, zI 0]) rfl) ?_
              refine zst sizeOf_27 (.agg [zI 0, zI 0, zI 0, zI 0, zI 0, zI 0, .list false 40 [], zI 0, zI 0, zI 0, zI 0]) ?_
              refine zM (zI 0) ?_
              refine zM (zI 4) ?_
              refine zN ?_
              refine AWp.ret ?_
              exact ⟨.inl rfl, _, ResOf.cellTmpTmp 2 2 0 11 27 _ _ (.agg [zI 0, zI 0, zI 0, zI 0, zI 0, zI 0, .list false 40 [], zI 0, zI 0, zI 0, zI 0]) rfl rfl Tryz.underlying27 sizeOf_27 rfl (Eq.refl true) 3 (zI 0) rfl rfl 4 (zI 4) rfl rfl (by decide), ⟨M, ⟨cf_few hrun (by omega) hrd (rs_few hsn hbs (by omega) (by assumption)), rfl⟩, (fun i x h => sub_nn hid1n h)⟩⟩
            · skip
              have h18' : bs.getD u false = true := (bnot_f h18)
              clear h18
              refine AWp.skip ?_
              refine AWp.region ?_
              refine zM (zI (u : Int)) ?_
              refine zr (zw ((u : Int) + 1) ((u + 1 : Nat) : Int)) ?_
              refine zM (zI ((u + 1 : Nat) : Int)) ?_
              refine zN ?_
              exact ⟨_, by omega, u + 1, rfl, rfl, by omega, nx_b hall (by assumption)⟩
          · skip
            have h17' : ¬ (u < 6) := (by have hh := of_decide_eq_false h17; omega)
            clear h17
            refine AWp.exit ?_
            refine AWp.seq ?_
            refine zg ?_
            refine zr (zlG (.agg [zI c.c0, zI c.c1, zI c.c2, zI c.a0, zI c.a1, zI c.a2, .list false 40 (c.thr.map encT), zI c.per, zI c.ret, zI c.age, zI c.ded]) Tryz.underlying27 sizeOf_27 setM_get) ?_
            refine zc [encC c] Tryz.call13 (RRight_any c (by first | omega | (simp only [List.length_nil]; omega) | assumption) (setM M id1 (cells true c))) ?_
            rintro _ _ ⟨rfl, rfl⟩
            refine zr (zn (decide (RightC c))) ?_
            refine zN ?_
            refine zC (b := !(decide (RightC c))) rfl (fun h19 => ?_) (fun h19 => ?_)
            · skip
              have h19' : ¬ RightC c := (of_decide_eq_false (bnot_t h19))
              clear h19
              refine zg ?_
              refine zr (Reader.build (xs := []) (Es := [40]) (places := places_27) rfl Tryz.underlying27 (by refine ⟨rfl, fun j p x hp hx => ?_⟩; match j, hp, hx with | _ + 0, hp, hx => cases hp) zero_27 rfl places_27_ok (cs := [zI 0, zI 0, zI 0, zI 0, zI 0, zI 0, .list false 40 [], zI 0, zI 0, zI 0, zI 0]) rfl) ?_
              refine zst sizeOf_27 (.agg [zI 0, zI 0, zI 0, zI 0, zI 0, zI 0, .list false 40 [], zI 0, zI 0, zI 0, zI 0]) ?_
              refine zM (zI 0) ?_
              refine zM (zI 1) ?_
              refine zN ?_
              refine AWp.ret ?_
              exact ⟨.inl rfl, _, ResOf.cellTmpTmp 2 2 0 11 27 _ _ (.agg [zI 0, zI 0, zI 0, zI 0, zI 0, zI 0, .list false 40 [], zI 0, zI 0, zI 0, zI 0]) rfl rfl Tryz.underlying27 sizeOf_27 rfl (Eq.refl true) 3 (zI 0) rfl rfl 4 (zI 1) rfl rfl (by decide), ⟨M, ⟨cf_wrong hrun (by omega) hrd (rs_all hsn hbs hall (by omega)) (by assumption), rfl⟩, (fun i x h => sub_nn hid1n h)⟩⟩
            · skip
              have h19' : RightC c := (of_decide_eq_true (bnot_f h19))
              clear h19
              refine AWp.skip ?_
              refine zg ?_
              refine zr (zlG (.agg [zI c.c0, zI c.c1, zI c.c2, zI c.a0, zI c.a1, zI c.a2, .list false 40 (c.thr.map encT), zI c.per, zI c.ret, zI c.age, zI c.ded]) Tryz.underlying27 sizeOf_27 setM_get) ?_
              refine zst sizeOf_27 (.agg [zI c.c0, zI c.c1, zI c.c2, zI c.a0, zI c.a1, zI c.a2, .list false 40 (c.thr.map encT), zI c.per, zI c.ret, zI c.age, zI c.ded]) ?_
              refine zM (zI 0) ?_
              refine zM (zI 0) ?_
              refine zN ?_
              refine AWp.ret ?_
              exact ⟨.inl rfl, _, ResOf.cellTmpTmp 2 2 0 11 27 _ _ (.agg [zI c.c0, zI c.c1, zI c.c2, zI c.a0, zI c.a1, zI c.a2, .list false 40 (c.thr.map encT), zI c.per, zI c.ret, zI c.age, zI c.ded]) rfl rfl Tryz.underlying27 sizeOf_27 rfl (Eq.refl true) 3 (zI 0) rfl rfl 4 (zI 0) rfl rfl (by decide), ⟨M, ⟨cf_ok hrun (by omega) hrd (rs_all hsn hbs hall (by omega)) (by assumption), rfl⟩, (fun i x h => sub_nn hid1n h)⟩⟩
end
section
open Go.RowKit

def zW (n : Int) : List UInt8 := printV n.toNat
theorem zw_len {n : Int} (h : n ≤ 9223372036854775807) : (zW n).length ≤ 21 := printV_len _ (by omega)
def hdL (c : Cfg) : List (List (List UInt8)) := [[cpL, zW c.c0, zW c.c1, zW c.c2], [alL, zW c.a0, zW c.a1, zW c.a2]]
def thL (c : Cfg) : List (List (List UInt8)) := c.thr.map fun t => [trL, printT t]
def tlL (c : Cfg) : List (List (List UInt8)) := [[peL, zW c.per], [reL, zW c.ret], [agL, zW c.age], [deL, zW c.ded]]
def linesC (c : Cfg) : List (List (List UInt8)) := hdL c ++ thL c ++ tlL c
def textC (c : Cfg) : List UInt8 := jT (linesC c)
def fldsOf (ws : List (List UInt8)) : List Field := ws.map fun w => ⟨w, 0, 0⟩
/-- Numbers that are ints. -/
structure InR (c : Cfg) : Prop where
  c0 : c.c0 ≤ 9223372036854775807
  c1 : c.c1 ≤ 9223372036854775807
  c2 : c.c2 ≤ 9223372036854775807
  a0 : c.a0 ≤ 9223372036854775807
  a1 : c.a1 ≤ 9223372036854775807
  a2 : c.a2 ≤ 9223372036854775807
  per : c.per ≤ 9223372036854775807
  ret : c.ret ≤ 9223372036854775807
  age : c.age ≤ 9223372036854775807
  ded : c.ded ≤ 9223372036854775807
  thr : ∀ t ∈ c.thr, t.amt ≤ 9223372036854775807
def prtC (c : Cfg) : AV := .tuple [.str (if RightC c then textC c else []), .lit (.int .i64 (if RightC c then 0 else 1))]
theorem prt_no {c : Cfg} (h : ¬ RightC c) : AV.tuple [.str [], .lit (.int .i64 1)] = prtC c := by unfold prtC; rw [if_neg h, if_neg h]
theorem prt_ok {c : Cfg} (h : RightC c) : AV.tuple [.str (textC c), .lit (.int .i64 0)] = prtC c := by unfold prtC; rw [if_pos h, if_pos h]

/-- What is printed: numbers that aren't below 0, right thresholds. -/
structure PrC (c : Cfg) : Prop where
  c0 : 0 ≤ c.c0
  c1 : 0 ≤ c.c1
  c2 : 0 ≤ c.c2
  a0 : 0 ≤ c.a0
  a1 : 0 ≤ c.a1
  a2 : 0 ≤ c.a2
  per : 0 ≤ c.per
  ret : 0 ≤ c.ret
  age : 0 ≤ c.age
  ded : 0 ≤ c.ded
  len : c.thr.length ≤ 12
  thr : ∀ t ∈ c.thr, RightT t
theorem prC {c : Cfg} (h : RightC c) : PrC c := by
  obtain ⟨p0, p1, p2, p3, p4, p5, _, _, p6, p7, p8, _, p9, _, p10, _, p11, _⟩ := h
  exact ⟨by omega, by omega, by omega, p3, p4, p5, by omega, p10, by omega, p11, p6, p7⟩

/-- Words of digits and letters. -/
def Plain (w : List UInt8) : Prop := w ≠ [] ∧ ∀ c ∈ w, 37 ≤ c.toNat ∧ c.toNat ≤ 126
theorem plain_digs (n : Nat) : ∀ c ∈ digs n, 37 ≤ c.toNat ∧ c.toNat ≤ 126 := by
  intro c hc
  have := digs_isD n c hc
  rw [isD_iff] at this
  simp at this
  omega
theorem plain_print (n : Nat) : Plain (printV n) := by
  unfold printV
  split
  · exact ⟨by simp, by decide⟩
  · split
    · rename_i u hu
      have hm := List.mem_of_find?_eq_some hu
      have hall : ∀ u ∈ unitL, ∀ c ∈ u.1, 37 ≤ c.toNat ∧ c.toNat ≤ 126 := by decide
      refine ⟨fun e => digs_ne _ (List.append_eq_nil_iff.1 e).1, fun c hc => ?_⟩
      rcases List.mem_append.1 hc with h | h
      · exact plain_digs _ c h
      · exact hall u hm c h
    · exact ⟨digs_ne _, plain_digs _⟩
theorem plain_thr (t : Thr) : Plain (printT t) := by
  have hw : ∀ c ∈ wordOf t.sig, 37 ≤ c.toNat ∧ c.toNat ≤ 126 := by unfold wordOf; split; decide; split <;> decide
  have hv : ∀ c ∈ valT t, 37 ≤ c.toNat ∧ c.toNat ≤ 126 := by
    unfold valT
    split
    · intro c hc
      rcases List.mem_append.1 hc with h | h
      · exact plain_digs _ c h
      · rw [List.mem_singleton.1 h]; decide
    · exact (plain_print _).2
  refine ⟨by unfold printT; simp, fun c hc => ?_⟩
  unfold printT at hc
  rcases List.mem_append.1 hc with hc | hc
  · rcases List.mem_append.1 hc with hc | hc
    · rcases List.mem_append.1 hc with hc | hc
      · exact hw c hc
      · rw [List.mem_singleton.1 hc]; decide
    · exact hv c hc
  · split at hc
    · rcases List.mem_append.1 hc with hc | hc
      · rw [List.mem_singleton.1 hc]; decide
      · exact plain_digs _ c hc
    · cases hc
theorem lines_plain (c : Cfg) : ∀ ws ∈ linesC c, ws ≠ [] ∧ ∀ w ∈ ws, Plain w := by
  have hz : ∀ n, Plain (zW n) := fun n => plain_print _
  have hk : ∀ w ∈ cwL, Plain w := by
    intro w hw
    refine ⟨?_, ?_⟩ <;> revert w <;> decide
  have ht : Plain trL := ⟨by decide, by decide⟩
  have h1 : ∀ w ∈ cwL, ∀ x y z, [w, zW x, zW y, zW z] ≠ [] ∧ ∀ v ∈ [w, zW x, zW y, zW z], Plain v := fun w hw x y z => ⟨by simp, fun v hv => by
    simp only [List.mem_cons, List.mem_nil_iff, or_false] at hv
    rcases hv with rfl | rfl | rfl | rfl
    · exact hk _ hw
    all_goals exact hz _⟩
  have h2 : ∀ w ∈ cwL, ∀ x, [w, zW x] ≠ [] ∧ ∀ v ∈ [w, zW x], Plain v := fun w hw x => ⟨by simp, fun v hv => by
    simp only [List.mem_cons, List.mem_nil_iff, or_false] at hv
    rcases hv with rfl | rfl
    · exact hk _ hw
    · exact hz _⟩
  intro ws hws
  rcases List.mem_append.1 hws with hws | hws
  · rcases List.mem_append.1 hws with hws | hws
    · simp only [hdL, List.mem_cons, List.mem_nil_iff, or_false] at hws
      rcases hws with rfl | rfl
      · exact h1 _ (by decide) _ _ _
      · exact h1 _ (by decide) _ _ _
    · obtain ⟨t, _, rfl⟩ := List.mem_map.1 hws
      refine ⟨by simp, fun v hv => ?_⟩
      simp only [List.mem_cons, List.mem_nil_iff, or_false] at hv
      rcases hv with rfl | rfl
      · exact ht
      · exact plain_thr t
  · simp only [tlL, List.mem_cons, List.mem_nil_iff, or_false] at hws
    rcases hws with rfl | rfl | rfl | rfl <;> exact h2 _ (by decide) _
theorem thL_len (c : Cfg) : (thL c).length = c.thr.length := List.length_map ..
theorem lines_len (c : Cfg) : (linesC c).length = c.thr.length + 6 := by
  unfold linesC; rw [List.length_append, List.length_append, thL_len]; show 2 + _ + 4 = _; omega
theorem thr_mem2 {ts : List Thr} {i : Nat} (h : i < ts.length) : ts.getD i t0 ∈ ts := by
  rw [List.getD_eq_getElem?_getD, List.getElem?_eq_getElem h]; exact List.getElem_mem _
theorem thr_r {c : Cfg} (h : PrC c) {i : Nat} (hi : i < c.thr.length) : RightT (c.thr.getD i t0) := h.thr _ (thr_mem2 hi)
theorem fo_snoc {w : List UInt8} {ws : List (List UInt8)} {i : Nat} (h : i < ws.length) : (fldsOf (w :: ws.take i)).map encF ++ [.agg [.str (ws.getD i []), .lit (.int .i64 0), .lit (.int .i64 0)]] = (fldsOf (w :: ws.take (i + 1))).map encF := by
  have e : ws.take (i + 1) = ws.take i ++ [ws.getD i []] := by
    rw [List.take_succ_eq_append_getElem h, List.getD_eq_getElem?_getD, List.getElem?_eq_getElem h]; rfl
  rw [e]
  simp [fldsOf, encF]
theorem fo_len {w : List UInt8} {ws : List (List UInt8)} {i : Nat} (h : i ≤ ws.length) : ((fldsOf (w :: ws.take i)).map encF).length = i + 1 := by
  rw [List.length_map, fldsOf, List.length_map, List.length_cons, List.length_take]; omega
theorem tx_fo (x : List (List (List UInt8))) : textsOf (x.map fldsOf) = x := by
  unfold textsOf
  rw [List.map_map]
  conv => rhs; rw [← List.map_id x]
  refine List.map_congr_left fun ws _ => ?_
  show (fldsOf ws).map (·.text) = ws
  unfold fldsOf
  rw [List.map_map]
  conv => rhs; rw [← List.map_id ws]
  rfl
theorem joint_fo (x : List (List (List UInt8))) : joinT (x.map fldsOf) = jT x := by rw [joinT_eq, tx_fo]
theorem hl_len {c : Cfg} {i : Nat} (h : i ≤ c.thr.length) : (((hdL c ++ (thL c).take i).map fldsOf).map encL).length = i + 2 := by
  rw [List.length_map, List.length_map, List.length_append, List.length_take, thL_len]; show 2 + _ = _; omega
theorem th_snoc {c : Cfg} {i : Nat} (h : i < c.thr.length) : ((hdL c ++ (thL c).take i).map fldsOf).map encL ++ [encL (fldsOf [trL, printT (c.thr.getD i t0)])] = ((hdL c ++ (thL c).take (i + 1)).map fldsOf).map encL := by
  have e : (thL c).take (i + 1) = (thL c).take i ++ [[trL, printT (c.thr.getD i t0)]] := by
    rw [List.take_succ_eq_append_getElem (by rw [thL_len]; exact h)]
    congr 2
    unfold thL
    rw [List.getElem_map, List.getD_eq_getElem?_getD, List.getElem?_eq_getElem h]; rfl
  rw [e]
  simp only [List.map_append, List.append_assoc, List.map_cons, List.map_nil]
theorem lc_last {c : Cfg} {i : Nat} (h : c.thr.length ≤ i) : ((hdL c ++ (thL c).take i).map fldsOf).map encL ++ (tlL c).map (fun ws => encL (fldsOf ws)) = ((linesC c).map fldsOf).map encL := by
  rw [List.take_of_length_le (by rw [thL_len]; exact h)]
  unfold linesC
  rw [List.map_append (l₁ := hdL c ++ thL c), List.map_append (l₁ := (hdL c ++ thL c).map fldsOf), List.map_map (l := tlL c)]; rfl
theorem inner_len {c : Cfg} (ws : List (List UInt8)) (h : ws ∈ linesC c) : ws.length ≤ 4 := by
  rcases List.mem_append.1 h with h | h
  · rcases List.mem_append.1 h with h | h
    · simp only [hdL, List.mem_cons, List.mem_nil_iff, or_false] at h
      rcases h with rfl | rfl <;> simp
    · obtain ⟨t, _, rfl⟩ := List.mem_map.1 h; simp
  · simp only [tlL, List.mem_cons, List.mem_nil_iff, or_false] at h
    rcases h with rfl | rfl | rfl | rfl <;> simp
theorem fo_at {x : List (List (List UInt8))} {i : Nat} (h : i < x.length) : (x.map fldsOf).getD i [] = fldsOf (x.getD i []) := by
  rw [List.getD_eq_getElem?_getD, List.getElem?_map, List.getD_eq_getElem?_getD, List.getElem?_eq_getElem h]; rfl
theorem lc_small {c : Cfg} (h : PrC c) : Small ((linesC c).map fldsOf) := by
  have h12 := h.len
  refine ⟨by rw [List.length_map, lines_len]; omega, fun i => ?_⟩
  by_cases hi : i < (linesC c).length
  · rw [fo_at hi, fldsOf, List.length_map]
    have := inner_len _ (show (linesC c).getD i [] ∈ linesC c by rw [List.getD_eq_getElem?_getD, List.getElem?_eq_getElem hi]; exact List.getElem_mem _)
    omega
  · rw [List.getD_eq_getElem?_getD, List.getElem?_eq_none (by rw [List.length_map]; omega)]; exact Nat.zero_le _
theorem lc_ne (c : Cfg) : ∀ i k, i < ((linesC c).map fldsOf).length → k < (((linesC c).map fldsOf).getD i []).length → ((((linesC c).map fldsOf).getD i []).getD k f0).text ≠ [] := by
  intro i k hi hk
  rw [List.length_map] at hi
  rw [fo_at hi] at hk ⊢
  have hm : (linesC c).getD i [] ∈ linesC c := by rw [List.getD_eq_getElem?_getD, List.getElem?_eq_getElem hi]; exact List.getElem_mem _
  rw [fldsOf, List.length_map] at hk
  have := ((lines_plain c _ hm).2 (((linesC c).getD i [])[k]) (List.getElem_mem _)).1
  rw [fldsOf, List.getD_eq_getElem?_getD, List.getElem?_map, List.getElem?_eq_getElem hk]
  exact this
theorem printT_le {u : Thr} (h : RightT u) (ha : u.amt ≤ 9223372036854775807) : (printT u).length ≤ 60 := by
  obtain ⟨h0, h2, hp, hg⟩ := h
  have h1 := word_len u.sig
  have h3 := digs_len u.pct.toNat 3 (by omega) (by decide)
  have h4 := printV_len u.amt.toNat (by omega)
  have h5 := digs_len u.gr.toNat 4 (by omega) (by decide)
  unfold printT valT
  split <;> split <;> simp only [List.length_append, List.length_cons, List.length_nil] <;> omega
theorem jT_cons (ws : List (List UInt8)) (x : List (List (List UInt8))) : jT (ws :: x) = wT ws ++ [10] ++ jT x := rfl
theorem jt_thr : ∀ (l : List Thr), (∀ t ∈ l, RightT t ∧ t.amt ≤ 9223372036854775807) → (jT (l.map fun t => [trL, printT t])).length ≤ l.length * 71
  | [], _ => Nat.zero_le _
  | t :: r, h => by
    have ih := jt_thr r (fun u hu => h u (List.mem_cons_of_mem _ hu))
    obtain ⟨hr, ha⟩ := h t (List.mem_cons_self ..)
    have := printT_le hr ha
    rw [List.map_cons, jT_cons]
    have e : wT [trL, printT t] = trL ++ (32 :: printT t) := by simp [wT]
    have e9 : trL.length = 9 := rfl
    rw [e, List.length_append, List.length_append, List.length_append, List.length_cons, List.length_cons, List.length_cons, List.length_nil]
    omega
theorem jt_len {c : Cfg} (h : PrC c) (hi : InR c) (i : Nat) : (jT ((thL c).take i)).length ≤ 1000 := by
  have h12 := h.len
  have e : (thL c).take i = (c.thr.take i).map fun t => [trL, printT t] := by unfold thL; rw [List.map_take]
  have := jt_thr (c.thr.take i) (fun t ht => ⟨h.thr t (List.mem_of_mem_take ht), hi.thr t (List.mem_of_mem_take ht)⟩)
  rw [e]
  have hl : (c.thr.take i).length ≤ c.thr.length := by rw [List.length_take]; omega
  have h3 : (c.thr.take i).length * 71 ≤ 12 * 71 := Nat.mul_le_mul_right _ (by omega)
  omega
/-- The first two lines' text. -/
def hdT (c : Cfg) : List UInt8 := ((((((((((((((((cpL ++ [32]) ++ zW c.c0) ++ [32]) ++ zW c.c1) ++ [32]) ++ zW c.c2) ++ (10 :: alL)) ++ [32]) ++ zW c.a0) ++ [32]) ++ zW c.a1) ++ [32]) ++ zW c.a2) ++ [10])))
theorem hdT_jT (c : Cfg) : hdT c = jT (hdL c) := by
  simp [hdT, hdL, jT, wT]
theorem hd_len {c : Cfg} (h : InR c) : (hdT c).length ≤ 200 := by
  have := zw_len h.c0; have := zw_len h.c1; have := zw_len h.c2; have := zw_len h.a0; have := zw_len h.a1; have := zw_len h.a2
  have e1 : cpL.length = 8 := rfl
  have e2 : alL.length = 11 := rfl
  unfold hdT
  simp only [List.length_append, List.length_cons, List.length_nil]
  omega
theorem txt_end {c : Cfg} : ((((((((hdT c ++ jT (thL c)) ++ [112, 101, 114, 105, 111, 100, 32]) ++ zW c.per) ++ [10, 114, 101, 116, 114, 105, 101, 115, 32]) ++ zW c.ret) ++ [10, 109, 97, 120, 97, 103, 101, 32]) ++ zW c.age) ++ [10, 100, 101, 97, 100, 32]) ++ zW c.ded ++ [10] = textC c := by
  unfold textC linesC
  rw [jT_app, jT_app, ← hdT_jT]
  simp [tlL, jT, wT, peL, reL, agL, deL]
theorem cat_thr {c : Cfg} {i : Nat} (h : i < c.thr.length) : ((hdT c ++ jT ((thL c).take i)) ++ [116, 104, 114, 101, 115, 104, 111, 108, 100, 32]) ++ printT (c.thr.getD i t0) ++ [10] = hdT c ++ jT ((thL c).take (i + 1)) := by
  have e : (thL c).take (i + 1) = (thL c).take i ++ [[trL, printT (c.thr.getD i t0)]] := by
    rw [List.take_succ_eq_append_getElem (by rw [thL_len]; exact h)]
    congr 2
    unfold thL
    rw [List.getElem_map, List.getD_eq_getElem?_getD, List.getElem?_eq_getElem h]; rfl
  rw [e, jT_app]
  simp [jT, wT, trL]
theorem text_len {c : Cfg} (h : PrC c) (hi : InR c) : (textC c).length ≤ 1400 := by
  have h1 := hd_len hi
  have h2 := jt_len h hi (thL c).length
  rw [List.take_length] at h2
  have := zw_len hi.per; have := zw_len hi.ret; have := zw_len hi.age; have := zw_len hi.ded
  rw [← txt_end]
  simp only [List.length_append, List.length_cons, List.length_nil]
  omega
theorem lc_len {c : Cfg} (h : PrC c) (hi : InR c) : (joinT ((linesC c).map fldsOf)).length ≤ 1400 := by
  rw [joint_fo]; exact text_len h hi
theorem zw_lens {c : Cfg} (h : InR c) : (zW c.c0).length ≤ 21 ∧ (zW c.c1).length ≤ 21 ∧ (zW c.c2).length ≤ 21 ∧ (zW c.a0).length ≤ 21 ∧ (zW c.a1).length ≤ 21 ∧ (zW c.a2).length ≤ 21 ∧ (zW c.per).length ≤ 21 ∧ (zW c.ret).length ≤ 21 ∧ (zW c.age).length ≤ 21 ∧ (zW c.ded).length ≤ 21 :=
  ⟨zw_len h.c0, zw_len h.c1, zw_len h.c2, zw_len h.a0, zw_len h.a1, zw_len h.a2, zw_len h.per, zw_len h.ret, zw_len h.age, zw_len h.ded⟩
end
end Go.Proofs.YtmmfkpbkacfegaaGreatDoor
