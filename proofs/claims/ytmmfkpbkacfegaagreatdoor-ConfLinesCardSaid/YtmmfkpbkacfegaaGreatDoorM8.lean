/- Cf3, Cf4, Cf6, Cf7. -/
import Derived.Test.YtmmfkpbkacfegaaGreatDoorM7
import Derived.Test.YtmmfkpbkacfegaaGreatDoorM3
import Derived.Test.YtmmfkpbkacfegaaGreatDoorM6
namespace Go.Proofs.YtmmfkpbkacfegaaGreatDoor
section
open Go.RowKit
/-- A key's numbers, if it is one. -/
def ptrsW (cid : Nat) (w : List UInt8) : List AV := if 0 ≤ kOf w then ptrs cid (kOf w) else []
theorem k_le (w : List UInt8) : kOf w ≤ 5 := by rcases k_cases w with ⟨h, _⟩ | ⟨h, _⟩ | ⟨h, _⟩ | ⟨h, _⟩ | ⟨h, _⟩ | ⟨h, _⟩ | ⟨h, _⟩ <;> omega
theorem ask_num {cid : Nat} {w : List UInt8} {T : List (List UInt8 × AV)} (hT : T.Perm (numS cid)) : (decide (0 ≤ kOf w) = true ∧ ∃ i, findS w T 0 = some (i, AV.list false 78 (ptrsW cid w))) ∨ (decide (0 ≤ kOf w) = false ∧ findS w T 0 = none ∧ ∀ (G : Gh) (w' : World), RelV Tryz.prog G w' (AV.list false 78 (ptrsW cid w)) (.slice none 0 0)) := by
  rcases num_all cid w with ⟨h, h2, h3⟩ | ⟨h, h2⟩
  · refine .inl ⟨decide_eq_true h, ?_⟩
    unfold ptrsW
    rw [if_pos h]
    exact findS_some (hT.mem_iff.2 h2) fun p hp => h3 p (hT.mem_iff.1 hp)
  · refine .inr ⟨decide_eq_false (by omega), findS_none fun p hp => h2 p (hT.mem_iff.1 hp), fun G w' => ?_⟩
    unfold ptrsW
    rw [if_neg (by omega)]
    exact .nil _ _
theorem fillW_any (M : Nat → Option (List AV)) (c : Cfg) (cid : Nat) (w : List UInt8) (hk : 0 ≤ kOf w) (l : List Field) (hlen : ∀ f ∈ l, f.text.length ≤ 4294967280) (hM : M cid = some (cells true c)) :
    ACall Tryz.prog 45 [.list false 78 (ptrsW cid w), .list false 50 (l.map encF)] M (fun r M' => ∃ e c', r = .lit (.int .i64 e) ∧ M' = setM M cid (cells true c') ∧ ((e = 0 ∧ FitsL (kOf w) l ∧ c' = setC c (kOf w) (l.map fun f => (qv f.text : Int))) ∨ (e = 2 ∧ ¬ FitsL (kOf w) l))) := by
  unfold ptrsW
  rw [if_pos hk]
  exact fill_any M c cid (kOf w) hk l hlen hM (k_le w)
/-- The words that were, as a map. -/
def seenS (sn : List (List UInt8)) : List (List UInt8 × AV) := sn.map fun w => (w, .lit (.int .i64 1))
theorem seenS_len (sn : List (List UInt8)) : (seenS sn).length = sn.length := List.length_map ..
theorem seen_snoc (sn : List (List UInt8)) (w : List UInt8) : seenS (sn ++ [w]) = seenS sn ++ [(w, .lit (.int .i64 1))] := by simp [seenS]
theorem fs_no {sn : List (List UInt8)} {w : List UInt8} (h : w ∉ sn) : findS w (seenS sn) 0 = none := findS_none fun p hp e => by
  obtain ⟨v, hv, rfl⟩ := List.mem_map.1 hp
  exact h (by rw [e]; exact hv)
theorem fs_yes {sn : List (List UInt8)} {w : List UInt8} (h : w ∈ sn) : ∃ i, findS w (seenS sn) 0 = some (i, .lit (.int .i64 1)) :=
  findS_some (List.mem_map.2 ⟨w, h, rfl⟩) fun p hp _ => by obtain ⟨v, _, rfl⟩ := List.mem_map.1 hp; rfl
theorem fs_snoc {sn : List (List UInt8)} {w : List UInt8} (_h : w ∉ sn) : ∃ i, findS w (seenS (sn ++ [w])) 0 = some (i, .lit (.int .i64 1)) := fs_yes (by simp)
theorem findS_set {k : List UInt8} {v v' : AV} : ∀ {S : List (List UInt8 × AV)} {o i : Nat}, findS k S o = some (o + i, v) → findS k (S.set i (k, v')) o = some (o + i, v')
  | [], _, _, h => by cases h
  | p :: r, o, 0, h => by simp [findS]
  | p :: r, o, i + 1, h => by
    unfold findS at h
    split at h
    · injection h with h; injection h with h1; omega
    · rename_i hn
      have := findS_set (S := r) (o := o + 1) (i := i) (v' := v') (by rw [h]; congr 2; omega)
      show findS k (p :: r.set i (k, v')) o = _
      unfold findS
      rw [if_neg hn, this]; congr 2; omega
theorem fs_set {k : List UInt8} {v v' : AV} {S : List (List UInt8 × AV)} {i : Nat} (h : findS k S 0 = some (i, v)) : findS k (S.set i (k, v')) 0 = some (i, v') := by
  have := findS_set (S := S) (o := 0) (i := i) (v' := v') (by rw [Nat.zero_add]; exact h)
  rwa [Nat.zero_add] at this
theorem fld_mem {l : List Field} {i : Nat} (h : i < l.length) : l.getD i f0 ∈ l := by
  rw [List.getD_eq_getElem?_getD, List.getElem?_eq_getElem h]; exact List.getElem_mem h
theorem thr_t {l : List Field} (h : (bif (l.getD 0 f0).text == trL then ((l.length : Int) == 2) else false) = true) : IsThr (ftx l) := by
  rw [ftx_get] at h
  cases e : ((ftx l).getD 0 [] == trL) with
  | false => rw [e] at h; cases h
  | true => rw [e] at h; have h2 := eq_of_beq h; exact ⟨eq_of_beq e, by rw [ftx_len]; omega⟩
theorem thr_f {l : List Field} (h : (bif (l.getD 0 f0).text == trL then ((l.length : Int) == 2) else false) = false) : ¬ IsThr (ftx l) := by
  rintro ⟨h1, h2⟩
  rw [ftx_get, h1, beq_self_eq_true] at h
  rw [ftx_len] at h2
  have := beq_eq_false_iff_ne.1 h
  exact this (by omega)
theorem thr_2 {l : List Field} (h : IsThr (ftx l)) : 1 < l.length := by have := h.2; rw [ftx_len] at this; omega
theorem fits_iff {l : List Field} (hl : 0 < l.length) (hk : 0 ≤ kOf (l.getD 0 f0).text) : Fits (ftx l) ↔ FitsL (kOf (l.getD 0 f0).text) (l.drop 1) := by
  unfold Fits FitsL
  rw [← ftx_get, ftx_len, List.length_drop]
  have e : (∀ w ∈ (ftx l).drop 1, qe w = 0) ↔ ∀ f ∈ l.drop 1, qe f.text = 0 := by
    unfold ftx; rw [← List.map_drop]
    exact ⟨fun h f hf => h _ (List.mem_map.2 ⟨f, hf, rfl⟩), fun h w hw => by obtain ⟨f, hf, rfl⟩ := List.mem_map.1 hw; exact h f hf⟩
  rw [e]
  constructor
  · rintro ⟨_, h1, h2⟩; refine ⟨?_, h2⟩; split at h1 <;> rename_i hh <;> simp only [hh, if_true, if_false] <;> omega
  · rintro ⟨h1, h2⟩; refine ⟨hk, ?_, h2⟩; split at h1 <;> rename_i hh <;> simp only [hh, if_true, if_false] <;> omega
theorem vals_eq (l : List Field) : ((ftx l).drop 1).map (fun w => (qv w : Int)) = (l.drop 1).map fun f => (qv f.text : Int) := by
  unfold ftx; rw [← List.map_drop, List.map_map]; rfl
section
variable {c c1 : Cfg} {sn : List (List UInt8)} {l : List Field} {e1 : Int}
theorem cl_thr (h : IsThr (ftx l)) : errT (l.getD 1 f0).text = clE sn (ftx l) ∧ (errT (l.getD 1 f0).text = 0 → { c with thr := c.thr ++ [readT (l.getD 1 f0).text] } = clC c (ftx l) ∧ seenS sn = seenS (clS sn (ftx l))) := by
  unfold clE clC clS
  rw [if_pos h, if_pos h, if_pos h, ← ftx_get]
  exact ⟨rfl, fun _ => ⟨rfl, rfl⟩⟩
theorem cl_none (h : ¬ IsThr (ftx l)) (hk : ¬ 0 ≤ kOf (l.getD 0 f0).text) : (2 : Int) = clE sn (ftx l) ∧ ((2 : Int) = 0 → c1 = clC c (ftx l) ∧ seenS sn = seenS (clS sn (ftx l))) := by
  refine ⟨?_, fun h => by cases h⟩
  unfold clE
  rw [if_neg h, if_neg (fun hf => hk (by rw [ftx_get]; exact hf.1))]
theorem cl_bad (h : ¬ IsThr (ftx l)) (hk : 0 ≤ kOf (l.getD 0 f0).text) (he : e1 ≠ 0) (hl : 0 < l.length) (hsp : (e1 = 0 ∧ FitsL (kOf (l.getD 0 f0).text) (l.drop 1) ∧ c1 = setC c (kOf (l.getD 0 f0).text) ((l.drop 1).map fun f => (qv f.text : Int))) ∨ (e1 = 2 ∧ ¬ FitsL (kOf (l.getD 0 f0).text) (l.drop 1))) {S2 : List (List UInt8 × AV)} :
    e1 = clE sn (ftx l) ∧ (e1 = 0 → c1 = clC c (ftx l) ∧ S2 = seenS (clS sn (ftx l))) := by
  rcases hsp with ⟨h0, _⟩ | ⟨h2, hn⟩
  · exact absurd h0 he
  · refine ⟨?_, fun h => absurd h he⟩
    unfold clE
    rw [if_neg h, if_neg (fun hf => hn ((fits_iff hl hk).1 hf)), h2]
theorem cl_twice (h : ¬ IsThr (ftx l)) (hk : 0 ≤ kOf (l.getD 0 f0).text) (he : ¬ e1 ≠ 0) (hl : 0 < l.length) (hsp : (e1 = 0 ∧ FitsL (kOf (l.getD 0 f0).text) (l.drop 1) ∧ c1 = setC c (kOf (l.getD 0 f0).text) ((l.drop 1).map fun f => (qv f.text : Int))) ∨ (e1 = 2 ∧ ¬ FitsL (kOf (l.getD 0 f0).text) (l.drop 1))) (hws : (l.getD 0 f0).text ∈ sn) {S2 : List (List UInt8 × AV)} :
    (5 : Int) = clE sn (ftx l) ∧ ((5 : Int) = 0 → c1 = clC c (ftx l) ∧ S2 = seenS (clS sn (ftx l))) := by
  refine ⟨?_, fun h => by cases h⟩
  rcases hsp with ⟨_, hf, _⟩ | ⟨h2, _⟩
  · unfold clE
    rw [if_neg h, if_pos ((fits_iff hl hk).2 hf), ← ftx_get, if_pos hws]
  · omega
theorem cl_good (h : ¬ IsThr (ftx l)) (hk : 0 ≤ kOf (l.getD 0 f0).text) (he : ¬ e1 ≠ 0) (hl : 0 < l.length) (hsp : (e1 = 0 ∧ FitsL (kOf (l.getD 0 f0).text) (l.drop 1) ∧ c1 = setC c (kOf (l.getD 0 f0).text) ((l.drop 1).map fun f => (qv f.text : Int))) ∨ (e1 = 2 ∧ ¬ FitsL (kOf (l.getD 0 f0).text) (l.drop 1))) (hws : (l.getD 0 f0).text ∉ sn) :
    (0 : Int) = clE sn (ftx l) ∧ ((0 : Int) = 0 → c1 = clC c (ftx l) ∧ seenS (sn ++ [(l.getD 0 f0).text]) = seenS (clS sn (ftx l))) := by
  rcases hsp with ⟨_, hf, hc⟩ | ⟨h2, _⟩
  · refine ⟨?_, fun _ => ⟨?_, ?_⟩⟩
    · unfold clE
      rw [if_neg h, if_pos ((fits_iff hl hk).2 hf), ← ftx_get, if_neg hws]
    · unfold clC
      rw [if_neg h, ← ftx_get, vals_eq]; exact hc
    · unfold clS
      rw [if_neg h, ← ftx_get]
  · omega
end
section
variable {M : Nat → Option (List AV)} {a b n i : Nat} {A B A' B' T x : List AV}
theorem sub_o (hM : M a = some A) (hm : M b = some B) (_hne : a ≠ b) (h : setM (setM M a A) b B i = some x) : M i = some x := by
  rw [setM_self hM, setM_self hm] at h; exact h
theorem sub_oc (_ : M a = some A) (hm : M b = some B) (hne : a ≠ b) (h : setM (setM M a A') b B i = some x) : setM M a A' i = some x := by
  rw [setM_self (by rw [setM_ne (Ne.symm hne)]; exact hm)] at h; exact h
theorem sub_nn (hn : M n = none) (h : M i = some x) : setM M n T i = some x := by
  rw [setM_ne (fun e => by subst e; rw [hn] at h; cases h)]; exact h
theorem sub_n (hM : M a = some A) (hm : M b = some B) (hne : a ≠ b) (_ : a ≠ n) (_ : b ≠ n) (hn : M n = none) (h : setM (setM M a A) b B i = some x) : setM M n T i = some x := sub_nn hn (sub_o hM hm hne h)
theorem sub_nc (hM : M a = some A) (hm : M b = some B) (hne : a ≠ b) (ha : a ≠ n) (_ : b ≠ n) (hn : M n = none) (h : setM (setM M a A') b B i = some x) : setM (setM M n T) a A' i = some x := by
  have h1 := sub_oc hM hm hne h
  by_cases e : i = a
  · subst e; rw [setM_get] at h1 ⊢; exact h1
  · rw [setM_ne e] at h1 ⊢; exact sub_nn hn h1
theorem sub_ncm (hM : M a = some A) (hm : M b = some B) (hne : a ≠ b) (ha : a ≠ n) (_ : b ≠ n) (hn : M n = none) (h : setM (setM M a A') b B' i = some x) : setM (setM (setM M n T) a A') b B' i = some x := by
  by_cases e : i = b
  · subst e; rw [setM_get] at h ⊢; exact h
  · rw [setM_ne e] at h ⊢
    by_cases e : i = a
    · subst e; rw [setM_get] at h ⊢; exact h
    · rw [setM_ne e] at h ⊢; exact sub_nn hn h
end

set_option maxRecDepth 20000 in
theorem line_any (M : Nat → Option (List AV)) (c : Cfg) (cid im : Nat) (sn : List (List UInt8)) (l : List Field) (hl0 : 0 < l.length) (hlen : ∀ f ∈ l, f.text.length ≤ 4294967280) (hth : c.thr.length ≤ 4294967280) (hne : cid ≠ im) (F : Cfg → List (List UInt8 × AV) → Nat → Option (List AV)) (hF : ∀ c2 S2, setM (setM M cid (cells true c2)) im (mapA S2) = F c2 S2) (hM : M cid = some (cells true c)) (hm : M im = some (mapA (seenS sn)))  : ACall Tryz.prog 20 [.gptr cid 0, .gmap im, .list false 50 (l.map encF)] M (fun r M' => ∃ e c2 S2, r = zI e ∧ M' = F c2 S2 ∧ (e = clE sn (ftx l) ∧ (e = 0 → c2 = clC c (ftx l) ∧ S2 = seenS (clS sn (ftx l))))) := by
  have hl0t := hlen (l.getD 0 f0) (fld_mem hl0)
  refine ACall.subM ?_
  refine ACall.of Tryz.func20 rfl (n := 67) rfl rfl rfl ?_
  refine zg ?_
  refine zM (zI 0) ?_
  refine zN ?_
  refine zg ?_
  refine zM (.list false 50 (l.map encF)) ?_
  refine zr (zel 0 (encF (l.getD 0 f0)) Tryz.underlying46 sizeOf_50 (getD_map (l := l) (j := 0) (by first | assumption | omega))) ?_
  refine zr (zfE Tryz.underlying50 sizeOf_9) ?_
  refine zr (zlE (.str ((l.getD 0 f0).text)) Tryz.underlying9 sizeOf_9) ?_
  refine zM (.str ((l.getD 0 f0).text)) ?_
  refine zN ?_
  refine AWp.seq ?_
  refine zj 23 [(0, .gptr cid 0), (1, .gmap im), (2, .list false 50 (l.map encF)), (6, zI 0), (7, .str ((l.getD 0 f0).text))] [] M (bif (((l.getD 0 f0).text) == [116, 104, 114, 101, 115, 104, 111, 108, 100]) then ((l.length : Int) == 2) else false) ?_ ?_
  · skip
    refine zM (.str ((l.getD 0 f0).text)) ?_
    refine zr (zt (((l.getD 0 f0).text) == [116, 104, 114, 101, 115, 104, 111, 108, 100])) ?_
    refine zM (zB (((l.getD 0 f0).text) == [116, 104, 114, 101, 115, 104, 111, 108, 100])) ?_
    refine AOps.splitJ (t := 19) (b := ((l.getD 0 f0).text) == [116, 104, 114, 101, 115, 104, 111, 108, 100]) (x := ((l.length : Int) == 2)) (y := false) rfl (fun h1 => ?_) (fun h1 => ?_)
    · skip
      have h1' : ((l.getD 0 f0).text) = [116, 104, 114, 101, 115, 104, 111, 108, 100] := (eq_of_beq h1)
      clear h1
      refine zM (.list false 50 (l.map encF)) ?_
      refine zr (zL (l.map encF) l.length Tryz.underlying46 (by simp)) ?_
      refine zr (zi ((l.length : Int) == 2)) ?_
      refine zr (zp true (zB ((l.length : Int) == 2))) ?_
      exact AOps.nil rfl
    · skip
      have h1' : ¬ (((l.getD 0 f0).text) = [116, 104, 114, 101, 115, 104, 111, 108, 100]) := (beq_eq_false_iff_ne.1 h1)
      clear h1
      refine zs ?_
      refine zs ?_
      refine zs ?_
      refine zr (zp false (zB false)) ?_
      exact AOps.nil rfl
  refine zC (b := bif (((l.getD 0 f0).text) == [116, 104, 114, 101, 115, 104, 111, 108, 100]) then ((l.length : Int) == 2) else false) rfl (fun h2 => ?_) (fun h2 => ?_)
  · skip
    have h2' : IsThr (ftx l) := (thr_t h2)
    clear h2
    have hl2 : 1 < l.length := thr_2 h2'
    have hl1t := hlen (l.getD 1 f0) (fld_mem hl2)
    refine zg ?_
    refine zM (.list false 50 (l.map encF)) ?_
    refine zr (zel 1 (encF (l.getD 1 f0)) Tryz.underlying46 sizeOf_50 (getD_map (l := l) (j := 1) (by first | assumption | omega))) ?_
    refine zr (zfE Tryz.underlying50 sizeOf_9) ?_
    refine zr (zlE (.str ((l.getD 1 f0).text)) Tryz.underlying9 sizeOf_9) ?_
    refine zc [.str ((l.getD 1 f0).text)] Tryz.call44 (TRead_any ((l.getD 1 f0).text) (by first | omega | (simp only [List.length_append, List.length_cons, List.length_nil]; omega)) M) ?_
    rintro _ _ ⟨rfl, rfl⟩
    refine zM (.tuple [encT (readT ((l.getD 1 f0).text)), zI (errT ((l.getD 1 f0).text))]) ?_
    refine zr (zx (encT (readT ((l.getD 1 f0).text)))) ?_
    refine zr (zx (zI (errT ((l.getD 1 f0).text)))) ?_
    refine zal [] zero_40 [zI 0, zI 0, zI 0, zB false, zI 0] ?_
    refine zst sizeOf_40 (encT (readT ((l.getD 1 f0).text))) ?_
    refine zM (zI (errT ((l.getD 1 f0).text))) ?_
    refine zN ?_
    refine AWp.seq (AWp.anyR [23, 0, 1, 2, 6, 7, 8, 9] [8] (⟨[(23, zB (bif (((l.getD 0 f0).text) == [116, 104, 114, 101, 115, 104, 111, 108, 100]) then ((l.length : Int) == 2) else false)), (0, .gptr cid 0), (1, .gmap im), (2, .list false 50 (l.map encF)), (6, zI 0), (7, .str ((l.getD 0 f0).text)), (8, .lptr 8 0), (9, zI (errT ((l.getD 1 f0).text)))], [(8, [zI ((readT ((l.getD 1 f0).text)).sig), zI ((readT ((l.getD 1 f0).text)).pct), zI ((readT ((l.getD 1 f0).text)).amt), zB ((readT ((l.getD 1 f0).text)).soft), zI ((readT ((l.getD 1 f0).text)).gr)])], (setM M cid [zI c.c0, zI c.c1, zI c.c2, zI c.a0, zI c.a1, zI c.a2, .list true 40 ((c.thr ++ [readT (l.getD 1 f0).text]).map encT), zI c.per, zI c.ret, zI c.age, zI c.ded])⟩) (by kernel_rfl) ?_ ?_)
    · skip
      skip
      refine SAny.share 4 #[true, true, true, true, true, true, true, false, false, false, false] (⟨[(23, zB (bif (((l.getD 0 f0).text) == [116, 104, 114, 101, 115, 104, 111, 108, 100]) then ((l.length : Int) == 2) else false)), (0, .gptr cid 0), (1, .gmap im), (2, .list false 50 (l.map encF)), (6, zI 0), (7, .str ((l.getD 0 f0).text)), (25, .list false 50 (l.map encF)), (26, .eptr (encF (l.getD 1 f0)) 0), (27, .eptr (encF (l.getD 1 f0)) 0), (28, .str ((l.getD 1 f0).text)), (29, .tuple [encT (readT ((l.getD 1 f0).text)), zI (errT ((l.getD 1 f0).text))]), (24, .tuple [encT (readT ((l.getD 1 f0).text)), zI (errT ((l.getD 1 f0).text))]), (30, encT (readT ((l.getD 1 f0).text))), (31, zI (errT ((l.getD 1 f0).text))), (8, .lptr 8 0), (9, zI (errT ((l.getD 1 f0).text))), (32, .gptr cid 0), (33, .gptr cid 0), (37, .agg [zI ((readT ((l.getD 1 f0).text)).sig), zI ((readT ((l.getD 1 f0).text)).pct), zI ((readT ((l.getD 1 f0).text)).amt), zB ((readT ((l.getD 1 f0).text)).soft), zI ((readT ((l.getD 1 f0).text)).gr)]), (38, .list true 40 [.agg [zI ((readT ((l.getD 1 f0).text)).sig), zI ((readT ((l.getD 1 f0).text)).pct), zI ((readT ((l.getD 1 f0).text)).amt), zB ((readT ((l.getD 1 f0).text)).soft), zI ((readT ((l.getD 1 f0).text)).gr)]]), (34, .gptr cid 0), (35, .gptr cid 6), (36, .list true 40 (c.thr.map encT))], [(8, [zI ((readT ((l.getD 1 f0).text)).sig), zI ((readT ((l.getD 1 f0).text)).pct), zI ((readT ((l.getD 1 f0).text)).amt), zB ((readT ((l.getD 1 f0).text)).soft), zI ((readT ((l.getD 1 f0).text)).gr)])], (setM M cid [zI c.c0, zI c.c1, zI c.c2, zI c.a0, zI c.a1, zI c.a2, .list false 40 (c.thr.map encT), zI c.per, zI c.ret, zI c.age, zI c.ded])⟩) ?_ (fun sh0 => ?_)
      · skip
        refine zq [7] ⟨⟨_, rfl, ?_⟩, trivial⟩
        · skip
          refine zap (m1 := c.thr.length) (m2 := 1) 40 (c.thr.map encT) [.agg [zI ((readT ((l.getD 1 f0).text)).sig), zI ((readT ((l.getD 1 f0).text)).pct), zI ((readT ((l.getD 1 f0).text)).amt), zB ((readT ((l.getD 1 f0).text)).soft), zI ((readT ((l.getD 1 f0).text)).gr)]] ((c.thr ++ [readT (l.getD 1 f0).text]).map encT) Tryz.underlying25 Tryz.underlying25 Tryz.i40 (by simp) rfl (by rw [List.map_append]; rfl) ?_
          refine zN ?_
          refine zq [8] ⟨⟨_, rfl, ?_⟩, trivial⟩
          · skip
            refine zr (znc (.gptr cid 0)) ?_
            refine zN ?_
            refine zk 9 rfl (PReader.fieldG rfl ⟨_, _, Tryz.underlying27, rfl, rfl, rfl, sizeOf_25⟩ (by decide) rfl) ?_
            refine zq [10] ⟨⟨_, rfl, ?_⟩, trivial⟩
            · skip
              refine AOps.storeOwn trivial rfl rfl rfl setM_get sizeOf_25 rfl (Nat.le_of_ble_eq_true rfl) setM_setM ?_
              refine zN ?_
              exact SAny.done (by kernel_rfl) rfl
      refine SAny.share 5 #[true, true, true, true, false, true, true, false, false, false, false] (⟨[(23, zB (bif (((l.getD 0 f0).text) == [116, 104, 114, 101, 115, 104, 111, 108, 100]) then ((l.length : Int) == 2) else false)), (0, .gptr cid 0), (1, .gmap im), (2, .list false 50 (l.map encF)), (6, zI 0), (7, .str ((l.getD 0 f0).text)), (25, .list false 50 (l.map encF)), (26, .eptr (encF (l.getD 1 f0)) 0), (27, .eptr (encF (l.getD 1 f0)) 0), (28, .str ((l.getD 1 f0).text)), (29, .tuple [encT (readT ((l.getD 1 f0).text)), zI (errT ((l.getD 1 f0).text))]), (24, .tuple [encT (readT ((l.getD 1 f0).text)), zI (errT ((l.getD 1 f0).text))]), (30, encT (readT ((l.getD 1 f0).text))), (31, zI (errT ((l.getD 1 f0).text))), (8, .lptr 8 0), (9, zI (errT ((l.getD 1 f0).text))), (32, .gptr cid 0), (33, .gptr cid 0), (37, .agg [zI ((readT ((l.getD 1 f0).text)).sig), zI ((readT ((l.getD 1 f0).text)).pct), zI ((readT ((l.getD 1 f0).text)).amt), zB ((readT ((l.getD 1 f0).text)).soft), zI ((readT ((l.getD 1 f0).text)).gr)]), (38, .list true 40 [.agg [zI ((readT ((l.getD 1 f0).text)).sig), zI ((readT ((l.getD 1 f0).text)).pct), zI ((readT ((l.getD 1 f0).text)).amt), zB ((readT ((l.getD 1 f0).text)).soft), zI ((readT ((l.getD 1 f0).text)).gr)]]), (34, .gptr cid 0), (35, .gptr cid 6)], [(8, [zI ((readT ((l.getD 1 f0).text)).sig), zI ((readT ((l.getD 1 f0).text)).pct), zI ((readT ((l.getD 1 f0).text)).amt), zB ((readT ((l.getD 1 f0).text)).soft), zI ((readT ((l.getD 1 f0).text)).gr)])], M⟩) ?_ (fun sh1 => ?_)
      · skip
        refine zq [4] ⟨⟨_, rfl, ?_⟩, trivial⟩
        · skip
          refine AOps.grabG trivial rfl (by decide) rfl Tryz.underlying25 rfl hM rfl rfl rfl ?_
          refine zN ?_
          exact SAny.same [23, 0, 1, 2, 6, 7, 25, 26, 27, 28, 29, 24, 30, 31, 8, 9, 32, 33, 37, 38, 34, 35, 36] [8] sh0 (by kernel_rfl) rfl
      refine SAny.share 5 #[true, true, true, true, true, true, false, false, false, false, false] (⟨[(23, zB (bif (((l.getD 0 f0).text) == [116, 104, 114, 101, 115, 104, 111, 108, 100]) then ((l.length : Int) == 2) else false)), (0, .gptr cid 0), (1, .gmap im), (2, .list false 50 (l.map encF)), (6, zI 0), (7, .str ((l.getD 0 f0).text)), (25, .list false 50 (l.map encF)), (26, .eptr (encF (l.getD 1 f0)) 0), (27, .eptr (encF (l.getD 1 f0)) 0), (28, .str ((l.getD 1 f0).text)), (29, .tuple [encT (readT ((l.getD 1 f0).text)), zI (errT ((l.getD 1 f0).text))]), (24, .tuple [encT (readT ((l.getD 1 f0).text)), zI (errT ((l.getD 1 f0).text))]), (30, encT (readT ((l.getD 1 f0).text))), (31, zI (errT ((l.getD 1 f0).text))), (8, .lptr 8 0), (9, zI (errT ((l.getD 1 f0).text))), (32, .gptr cid 0), (33, .gptr cid 0), (37, .agg [zI ((readT ((l.getD 1 f0).text)).sig), zI ((readT ((l.getD 1 f0).text)).pct), zI ((readT ((l.getD 1 f0).text)).amt), zB ((readT ((l.getD 1 f0).text)).soft), zI ((readT ((l.getD 1 f0).text)).gr)]), (34, .gptr cid 0), (35, .gptr cid 6), (36, .list true 40 (c.thr.map encT))], [(8, [zI ((readT ((l.getD 1 f0).text)).sig), zI ((readT ((l.getD 1 f0).text)).pct), zI ((readT ((l.getD 1 f0).text)).amt), zB ((readT ((l.getD 1 f0).text)).soft), zI ((readT ((l.getD 1 f0).text)).gr)])], (setM M cid [zI c.c0, zI c.c1, zI c.c2, zI c.a0, zI c.a1, zI c.a2, .list false 40 (c.thr.map encT), zI c.per, zI c.ret, zI c.age, zI c.ded])⟩) ?_ (fun sh2 => ?_)
      · skip
        refine zq [6] ⟨⟨_, rfl, ?_⟩, trivial⟩
        · skip
          refine zbS [] [.agg [zI ((readT ((l.getD 1 f0).text)).sig), zI ((readT ((l.getD 1 f0).text)).pct), zI ((readT ((l.getD 1 f0).text)).amt), zB ((readT ((l.getD 1 f0).text)).soft), zI ((readT ((l.getD 1 f0).text)).gr)]] Tryz.underlying25 Tryz.i40 ?_
          refine zN ?_
          exact SAny.same [23, 0, 1, 2, 6, 7, 25, 26, 27, 28, 29, 24, 30, 31, 8, 9, 32, 33, 37, 38, 34, 35, 36] [8] sh0 (by kernel_rfl) rfl
      refine SAny.share 6 #[true, true, true, true, false, true, false, false, false, false, false] (⟨[(23, zB (bif (((l.getD 0 f0).text) == [116, 104, 114, 101, 115, 104, 111, 108, 100]) then ((l.length : Int) == 2) else false)), (0, .gptr cid 0), (1, .gmap im), (2, .list false 50 (l.map encF)), (6, zI 0), (7, .str ((l.getD 0 f0).text)), (25, .list false 50 (l.map encF)), (26, .eptr (encF (l.getD 1 f0)) 0), (27, .eptr (encF (l.getD 1 f0)) 0), (28, .str ((l.getD 1 f0).text)), (29, .tuple [encT (readT ((l.getD 1 f0).text)), zI (errT ((l.getD 1 f0).text))]), (24, .tuple [encT (readT ((l.getD 1 f0).text)), zI (errT ((l.getD 1 f0).text))]), (30, encT (readT ((l.getD 1 f0).text))), (31, zI (errT ((l.getD 1 f0).text))), (8, .lptr 8 0), (9, zI (errT ((l.getD 1 f0).text))), (32, .gptr cid 0), (33, .gptr cid 0), (37, .agg [zI ((readT ((l.getD 1 f0).text)).sig), zI ((readT ((l.getD 1 f0).text)).pct), zI ((readT ((l.getD 1 f0).text)).amt), zB ((readT ((l.getD 1 f0).text)).soft), zI ((readT ((l.getD 1 f0).text)).gr)]), (34, .gptr cid 0), (35, .gptr cid 6)], [(8, [zI ((readT ((l.getD 1 f0).text)).sig), zI ((readT ((l.getD 1 f0).text)).pct), zI ((readT ((l.getD 1 f0).text)).amt), zB ((readT ((l.getD 1 f0).text)).soft), zI ((readT ((l.getD 1 f0).text)).gr)])], M⟩) ?_ (fun sh3 => ?_)
      · skip
        refine zq [4, 6] ⟨⟨_, rfl, ?_⟩, ⟨_, rfl, ?_⟩, trivial⟩
        · skip
          refine AOps.grabG trivial rfl (by decide) rfl Tryz.underlying25 rfl hM rfl rfl rfl ?_
          refine zN ?_
          exact SAny.same [23, 0, 1, 2, 6, 7, 25, 26, 27, 28, 29, 24, 30, 31, 8, 9, 32, 33, 37, 34, 35, 36] [8] sh2 (by kernel_rfl) rfl
        · skip
          refine zbS [] [.agg [zI ((readT ((l.getD 1 f0).text)).sig), zI ((readT ((l.getD 1 f0).text)).pct), zI ((readT ((l.getD 1 f0).text)).amt), zB ((readT ((l.getD 1 f0).text)).soft), zI ((readT ((l.getD 1 f0).text)).gr)]] Tryz.underlying25 Tryz.i40 ?_
          refine zN ?_
          exact SAny.same [23, 0, 1, 2, 6, 7, 25, 26, 27, 28, 29, 24, 30, 31, 8, 9, 32, 33, 37, 38, 34, 35] [8] sh1 (by kernel_rfl) rfl
      refine zkm 0 (.gptr cid 0) ?_
      refine zkm 1 (.gptr cid 0) ?_
      refine zq [2, 5] ⟨⟨_, rfl, ?_⟩, ⟨_, rfl, ?_⟩, trivial⟩
      · skip
        refine zr (znc (.gptr cid 0)) ?_
        refine zN ?_
        refine zk 3 rfl (PReader.fieldG rfl ⟨_, _, Tryz.underlying27, rfl, rfl, rfl, sizeOf_25⟩ (by decide) rfl) ?_
        refine zq [4, 5] ⟨⟨_, rfl, ?_⟩, ⟨_, rfl, ?_⟩, trivial⟩
        · skip
          refine AOps.grabG trivial rfl (by decide) rfl Tryz.underlying25 rfl hM rfl rfl rfl ?_
          refine zN ?_
          refine zq [5] ⟨⟨_, rfl, ?_⟩, trivial⟩
          · skip
            refine zr (zlL (.agg [zI ((readT ((l.getD 1 f0).text)).sig), zI ((readT ((l.getD 1 f0).text)).pct), zI ((readT ((l.getD 1 f0).text)).amt), zB ((readT ((l.getD 1 f0).text)).soft), zI ((readT ((l.getD 1 f0).text)).gr)]) Tryz.underlying40 sizeOf_40) ?_
            refine zN ?_
            exact SAny.same [23, 0, 1, 2, 6, 7, 25, 26, 27, 28, 29, 24, 30, 31, 8, 9, 32, 33, 37, 34, 35, 36] [8] sh2 (by kernel_rfl) rfl
        · skip
          refine zr (zlL (.agg [zI ((readT ((l.getD 1 f0).text)).sig), zI ((readT ((l.getD 1 f0).text)).pct), zI ((readT ((l.getD 1 f0).text)).amt), zB ((readT ((l.getD 1 f0).text)).soft), zI ((readT ((l.getD 1 f0).text)).gr)]) Tryz.underlying40 sizeOf_40) ?_
          refine zN ?_
          exact SAny.same [23, 0, 1, 2, 6, 7, 25, 26, 27, 28, 29, 24, 30, 31, 8, 9, 32, 33, 37, 34, 35] [8] sh3 (by kernel_rfl) rfl
      · skip
        refine zr (zlL (.agg [zI ((readT ((l.getD 1 f0).text)).sig), zI ((readT ((l.getD 1 f0).text)).pct), zI ((readT ((l.getD 1 f0).text)).amt), zB ((readT ((l.getD 1 f0).text)).soft), zI ((readT ((l.getD 1 f0).text)).gr)]) Tryz.underlying40 sizeOf_40) ?_
        refine zN ?_
        refine zq [2, 6] ⟨⟨_, rfl, ?_⟩, ⟨_, rfl, ?_⟩, trivial⟩
        · skip
          refine zr (znc (.gptr cid 0)) ?_
          refine zN ?_
          refine zk 3 rfl (PReader.fieldG rfl ⟨_, _, Tryz.underlying27, rfl, rfl, rfl, sizeOf_25⟩ (by decide) rfl) ?_
          exact SAny.same [23, 0, 1, 2, 6, 7, 25, 26, 27, 28, 29, 24, 30, 31, 8, 9, 32, 33, 37, 34, 35] [8] sh3 (by kernel_rfl) rfl
        · skip
          refine zbS [] [.agg [zI ((readT ((l.getD 1 f0).text)).sig), zI ((readT ((l.getD 1 f0).text)).pct), zI ((readT ((l.getD 1 f0).text)).amt), zB ((readT ((l.getD 1 f0).text)).soft), zI ((readT ((l.getD 1 f0).text)).gr)]] Tryz.underlying25 Tryz.i40 ?_
          refine zN ?_
          refine zq [2] ⟨⟨_, rfl, ?_⟩, trivial⟩
          · skip
            refine zr (znc (.gptr cid 0)) ?_
            refine zN ?_
            refine zk 3 rfl (PReader.fieldG rfl ⟨_, _, Tryz.underlying27, rfl, rfl, rfl, sizeOf_25⟩ (by decide) rfl) ?_
            exact SAny.same [23, 0, 1, 2, 6, 7, 25, 26, 27, 28, 29, 24, 30, 31, 8, 9, 32, 33, 37, 38, 34, 35] [8] sh1 (by kernel_rfl) rfl
    refine zg ?_
    refine zM (zI (errT ((l.getD 1 f0).text))) ?_
    refine zM (zI (errT ((l.getD 1 f0).text))) ?_
    refine zN ?_
    refine AWp.ret ?_
    exact ⟨.inl rfl, _, ResOf.one 6 (zI (errT ((l.getD 1 f0).text))) rfl rfl, ⟨_, ⟨_, { c with thr := c.thr ++ [readT (l.getD 1 f0).text] }, (seenS sn), rfl, hF _ _, (cl_thr (by assumption))⟩, (fun i x h => sub_oc hM hm hne h)⟩⟩
  · skip
    have h2' : ¬ IsThr (ftx l) := (thr_f h2)
    clear h2
    refine AWp.skip ?_
    refine zg ?_
    refine zM (.gptr cid 0) ?_
    refine zc [.gptr cid 0] Tryz.call21 (numbers_any cid M) ?_
    rintro _ _ ⟨id1, T1, rfl, hid1n, hT1, rfl⟩
    have hcidid1 : cid ≠ id1 := fun e => by subst e; have hq := (Eq.symm hM).trans hid1n; cases hq
    have himid1 : im ≠ id1 := fun e => by subst e; have hq := (Eq.symm hm).trans hid1n; cases hq
    refine zM (.str ((l.getD 0 f0).text)) ?_
    refine zr (Reader.mapAsk (.list false 78 (ptrsW cid ((l.getD 0 f0).text))) (decide (0 ≤ kOf ((l.getD 0 f0).text))) Tryz.underlying51 Tryz.underlying9 zero_75 setM_get (ask_num hT1) rfl) ?_
    refine zM (.tuple [.list false 78 (ptrsW cid ((l.getD 0 f0).text)), zB (decide (0 ≤ kOf ((l.getD 0 f0).text)))]) ?_
    refine zr (zx (.list false 78 (ptrsW cid ((l.getD 0 f0).text)))) ?_
    refine zr (zx (zB (decide (0 ≤ kOf ((l.getD 0 f0).text))))) ?_
    refine zM (.list false 78 (ptrsW cid ((l.getD 0 f0).text))) ?_
    refine zM (zB (decide (0 ≤ kOf ((l.getD 0 f0).text)))) ?_
    refine zN ?_
    refine AWp.seq ?_
    refine zg ?_
    refine zM (zB (decide (0 ≤ kOf ((l.getD 0 f0).text)))) ?_
    refine zr (zn (decide (0 ≤ kOf ((l.getD 0 f0).text)))) ?_
    refine zN ?_
    refine zC (b := !(decide (0 ≤ kOf ((l.getD 0 f0).text)))) rfl (fun h3 => ?_) (fun h3 => ?_)
    · skip
      have h3' : ¬ 0 ≤ kOf ((l.getD 0 f0).text) := (of_decide_eq_false (bnot_t h3))
      clear h3
      refine zg ?_
      refine zM (zI 2) ?_
      refine zN ?_
      refine AWp.ret ?_
      exact ⟨.inl rfl, _, ResOf.one 6 (zI 2) rfl rfl, ⟨_, ⟨_, c, (seenS sn), rfl, hF _ _, (cl_none (by assumption) (by assumption))⟩, (fun i x h => sub_n hM hm hne hcidid1 himid1 hid1n h)⟩⟩
    · skip
      have h3' : 0 ≤ kOf ((l.getD 0 f0).text) := (of_decide_eq_true (bnot_f h3))
      clear h3
      skip
      refine AWp.skip ?_
      refine AWp.seq ?_
      refine zg ?_
      refine zM (.list false 78 (ptrsW cid ((l.getD 0 f0).text))) ?_
      refine zM (.list false 50 (l.map encF)) ?_
      refine zr (Reader.piece (xs := (l.map encF)) (i := 1) (j := l.length) rfl Tryz.underlying46 sizeOf_50 rfl ⟨_, _, rfl, rfl⟩ (by rw [List.length_map]; rfl) (by omega) (by rw [List.length_map]; omega) (ys := ((l.drop 1).map encF)) (by rw [List.take_of_length_le (by simp), List.map_drop])) ?_
      refine zc [.list false 78 (ptrsW cid ((l.getD 0 f0).text)), .list false 50 ((l.drop 1).map encF)] Tryz.call45 (fillW_any (setM M id1 (mapA T1)) c cid ((l.getD 0 f0).text) (by assumption) (l.drop 1) (fun f hf => hlen f (List.mem_of_mem_drop hf)) ((setM_ne (by first | assumption | exact Ne.symm (by assumption))).trans hM)) ?_
      rintro _ _ ⟨e1, c1, rfl, rfl, hsp⟩
      refine zM (zI e1) ?_
      refine zN ?_
      refine zg ?_
      refine zM (zI e1) ?_
      refine zr (zi (e1 != 0)) ?_
      refine zN ?_
      refine zC (b := e1 != 0) rfl (fun h4 => ?_) (fun h4 => ?_)
      · skip
        have h4' : e1 ≠ 0 := (by have hh := bne_iff_ne.1 h4; omega)
        clear h4
        refine zg ?_
        refine zM (zI e1) ?_
        refine zM (zI e1) ?_
        refine zN ?_
        refine AWp.ret ?_
        exact ⟨.inl rfl, _, ResOf.one 6 (zI e1) rfl rfl, ⟨_, ⟨_, c1, (seenS sn), rfl, hF _ _, (cl_bad (by assumption) (by assumption) (by assumption) hl0 hsp)⟩, (fun i x h => sub_nc hM hm hne hcidid1 himid1 hid1n h)⟩⟩
      · skip
        have h4' : ¬ (e1 ≠ 0) := (by have hh := bne_eq_false_iff_eq.1 h4; omega)
        clear h4
        refine AWp.skip ?_
        by_cases hws : (l.getD 0 f0).text ∈ sn
        · skip
          obtain ⟨i0, hfi⟩ := fs_yes hws
          refine zg ?_
          refine zM (.gmap im) ?_
          refine zM (.str ((l.getD 0 f0).text)) ?_
          refine zr (Reader.mapVal (zI 1) Tryz.underlying45 Tryz.underlying9 zero_3 ((setM_ne (by first | assumption | exact Ne.symm (by assumption))).trans ((setM_ne (by first | assumption | exact Ne.symm (by assumption))).trans hm)) (.inl ⟨_, hfi⟩) rfl) ?_
          refine zr (zd (1 + 1) 2) ?_
          refine AOps.mapPut (v := zI 2) Tryz.underlying45 Tryz.underlying9 ((setM_ne (by first | assumption | exact Ne.symm (by assumption))).trans ((setM_ne (by first | assumption | exact Ne.symm (by assumption))).trans hm)) hfi rfl ?_ rfl
          refine zN ?_
          refine AWp.seq ?_
          refine zg ?_
          refine zM (.gmap im) ?_
          refine zM (.str ((l.getD 0 f0).text)) ?_
          refine zr (Reader.mapVal (zI 2) Tryz.underlying45 Tryz.underlying9 zero_3 setM_get (.inl ⟨_, fs_set hfi⟩) rfl) ?_
          refine zr (zi true) ?_
          refine zN ?_
          refine AWp.cond (b := true) rfl (fun hx => ?_) (fun hx => by cases hx)
          refine zg ?_
          refine zM (zI 5) ?_
          refine zN ?_
          refine AWp.ret ?_
          exact ⟨.inl rfl, _, ResOf.one 6 (zI 5) rfl rfl, ⟨_, ⟨_, c1, ((seenS sn).set i0 ((l.getD 0 f0).text, zI 2)), rfl, hF _ _, (cl_twice (by assumption) (by assumption) (by assumption) hl0 hsp hws)⟩, (fun i x h => sub_ncm hM hm hne hcidid1 himid1 hid1n h)⟩⟩
        · skip
          refine zg ?_
          refine zM (.gmap im) ?_
          refine zM (.str ((l.getD 0 f0).text)) ?_
          refine zr (Reader.mapVal (zI 0) Tryz.underlying45 Tryz.underlying9 zero_3 ((setM_ne (by first | assumption | exact Ne.symm (by assumption))).trans ((setM_ne (by first | assumption | exact Ne.symm (by assumption))).trans hm)) (.inr ⟨fs_no hws, fun _ _ => RelV.lit _⟩) rfl) ?_
          refine zr (zd (0 + 1) 1) ?_
          refine AOps.mapNew (S := seenS sn) (k := (l.getD 0 f0).text) (v := zI 1) trivial rfl (.inl rfl) Tryz.underlying45 Tryz.underlying9 rfl ((setM_ne (by first | assumption | exact Ne.symm (by assumption))).trans ((setM_ne (by first | assumption | exact Ne.symm (by assumption))).trans hm)) rfl (.inl ⟨rfl, rfl⟩) rfl rfl (fs_no hws) (by first | (rw [← seen_snoc]; done) | (rw [← seen_snoc]; exact rfl)) ?_
          refine zN ?_
          refine AWp.seq ?_
          refine zg ?_
          refine zM (.gmap im) ?_
          refine zM (.str ((l.getD 0 f0).text)) ?_
          refine zr (Reader.mapVal (zI 1) Tryz.underlying45 Tryz.underlying9 zero_3 setM_get (.inl (fs_snoc hws)) rfl) ?_
          refine zr (zi false) ?_
          refine zN ?_
          refine AWp.cond (b := false) rfl (fun hx => by cases hx) (fun hx => ?_)
          refine AWp.skip ?_
          refine zg ?_
          refine zM (zI 0) ?_
          refine zN ?_
          refine AWp.ret ?_
          exact ⟨.inl rfl, _, ResOf.one 6 (zI 0) rfl rfl, ⟨_, ⟨_, c1, (seenS (sn ++ [(l.getD 0 f0).text])), rfl, hF _ _, (cl_good (by assumption) (by assumption) (by assumption) hl0 hsp hws)⟩, (fun i x h => sub_ncm hM hm hne hcidid1 himid1 hid1n h)⟩⟩
end
section
open Go.RowKit

theorem lexFrom_small (ls : List (List UInt8)) : ∀ n, (lexFrom n ls).length ≤ ls.length := by
  induction ls with
  | nil => intro n; exact Nat.zero_le _
  | cons s r ih =>
    intro n
    have := ih (n + 1)
    rw [lexFrom]
    split <;> simp <;> omega
theorem scan_small : ∀ (s : List UInt8) (n i : Nat), (scan n i s).length ≤ s.length := by
  intro s
  induction h : s.length using Nat.strongRecOn generalizing s with
  | _ m ih =>
    intro n i
    cases s with
    | nil => rw [scan_nil]; exact Nat.zero_le _
    | cons c r =>
      subst h
      cases hb : blankB c.toNat with
      | true =>
        rw [scan_blank hb]
        have := ih r.length (by simp) r rfl n (i + 1)
        simp; omega
      | false =>
        by_cases h35 : c.toNat = 35
        · rw [scan_hash hb h35]; exact Nat.zero_le _
        · rw [scan_word hb h35]
          have hl := (List.dropWhile_sublist (l := r) (fun c => !blankB c.toNat)).length_le
          have := ih _ (by simp; omega) (r.dropWhile (fun c => !blankB c.toNat)) rfl n (i + 1 + (r.takeWhile (fun c => !blankB c.toNat)).length)
          simp only [List.length_cons]; omega
theorem lexFrom_at_small (ls : List (List UInt8)) (N : Nat) (h : ∀ s ∈ ls, s.length ≤ N) : ∀ n, ∀ fs ∈ lexFrom n ls, fs.length ≤ N := by
  induction ls with
  | nil => intro n fs hf; simp [lexFrom] at hf
  | cons s r ih =>
    intro n fs hf
    rw [lexFrom] at hf
    have hr := ih (fun s hs => h s (List.mem_cons_of_mem _ hs)) (n + 1)
    split at hf
    · exact hr fs hf
    · rcases List.mem_cons.1 hf with h1 | h1
      · subst h1; exact Nat.le_trans (scan_small s n 0) (h s (List.mem_cons_self ..))
      · exact hr fs h1
theorem lex_lens (l : List UInt8) : (lexLines l).length ≤ 65537 ∧ ∀ fs ∈ lexLines l, fs.length ≤ 65536 := by
  unfold lexLines
  split
  · rename_i h
    have hl := readable_len h
    refine ⟨Nat.le_trans (lexFrom_small _ _) (by have := splitNl_le l; omega), lexFrom_at_small _ _ (fun s hs => ?_) 1⟩
    obtain ⟨k, hk⟩ := List.getElem?_of_mem hs
    have := splitNl_mem l k s hk
    omega
  · exact ⟨Nat.zero_le _, fun fs h => by cases h⟩
theorem errI_ok {b : List UInt8} (h : ¬ errI b ≠ 0) : readableB b = true := by
  unfold errI at h
  cases hb : readableB b with
  | true => rfl
  | false => rw [hb] at h; exact absurd (show (2 : Int) ≠ 0 by decide) h
theorem lex_pos {b : List UInt8} {i : Nat} (h : i < (lexLines b).length) : 0 < ((lexLines b).getD i []).length := by
  have hj := lex_ok b
  have hm : ((lexLines b).getD i []).map (·.text) ∈ textsOf (lexLines b) := List.mem_map.2 ⟨_, by rw [List.getD_eq_getElem?_getD, List.getElem?_eq_getElem h]; exact List.getElem_mem h, rfl⟩
  have := (hj _ hm).1
  rw [Ne, List.map_eq_nil_iff] at this
  exact List.length_pos_iff.2 this
theorem scan_text_len {s : List UInt8} {n i : Nat} {f : Field} (h : f ∈ scan n i s) : f.text.length ≤ s.length + 1 := by
  have h1 := (words_len2 s n i).1
  have h2 : ∀ (l : List Field), f ∈ l → f.text.length ≤ (l.map fun f => f.text.length + 1).sum := by
    intro l
    induction l with
    | nil => intro hf; cases hf
    | cons a r ih =>
      intro hf
      rw [List.map_cons, List.sum_cons]
      rcases List.mem_cons.1 hf with rfl | hf
      · omega
      · have := ih hf; omega
  exact Nat.le_trans (h2 _ h) h1
theorem lex_texts {b : List UInt8} (hr : readableB b = true) (i : Nat) : ∀ f ∈ (lexLines b).getD i [], f.text.length ≤ 4294967280 := by
  intro f hf
  rcases Nat.lt_or_ge i (lexLines b).length with h | h
  · have hm : (lexLines b).getD i [] ∈ lexLines b := by rw [List.getD_eq_getElem?_getD, List.getElem?_eq_getElem h]; exact List.getElem_mem h
    generalize (lexLines b).getD i [] = fs at hm hf
    unfold lexLines at hm
    rw [hr, if_pos rfl] at hm
    obtain ⟨s, hs, m, rfl, _⟩ := lexFrom_mem _ _ _ hm
    have h1 := scan_text_len hf
    obtain ⟨k, hk⟩ := List.getElem?_of_mem hs
    have h2 := splitNl_mem b k s hk
    have h3 := readable_len hr
    omega
  · rw [List.getD_eq_getElem?_getD, List.getElem?_eq_none h] at hf; cases hf
section
variable {M : Nat → Option (List AV)} {a b n i : Nat} {A B A' B' T x : List AV}
theorem mem2 (hne : a ≠ b) : setM (setM (setM (setM M a A) b B) a A') b B' = setM (setM M a A') b B' := by
  funext i
  by_cases e : i = b
  · subst e; rw [setM_get, setM_get]
  · rw [setM_ne e, setM_ne e]
    by_cases e2 : i = a
    · subst e2; rw [setM_get, setM_get]
    · rw [setM_ne e2, setM_ne e, setM_ne e2, setM_ne e2]
theorem non1 (h : setM M a A b = none) (hne : a ≠ b) : M b = none := by rwa [setM_ne (Ne.symm hne)] at h
theorem non2 (h : setM (setM M a A) b B n = none) (ha : a ≠ n) (hb : b ≠ n) : M n = none := by rwa [setM_ne (Ne.symm hb), setM_ne (Ne.symm ha)] at h
theorem inc2 (ha : M a = none) (hb : M b = none) (h : M i = some x) : setM (setM M a A) b B i = some x := by
  rw [setM_ne (fun e => by subst e; rw [hb] at h; cases h), setM_ne (fun e => by subst e; rw [ha] at h; cases h)]; exact h
theorem inc3 (ha : M a = none) (hb : M b = none) (hn : M n = none) (h : M i = some x) : setM (setM (setM M a A) b B) n T i = some x := by
  rw [setM_ne (fun e => by subst e; rw [hn] at h; cases h)]; exact inc2 ha hb h
end
section
variable {b : List UInt8} {c : Cfg} {sn : List (List UInt8)} {i : Nat}
theorem rd_res {c : Cfg} {n : Nat} {e : Int} (h1 : cfC b = c) (h2 : cfN b = n) (h3 : cfE b = e) : AV.tuple [encC c, .lit (.int .i64 (n : Int)), .lit (.int .i64 e)] = .tuple [encC (cfC b), .lit (.int .i64 (cfN b : Int)), .lit (.int .i64 (cfE b))] := by rw [h1, h2, h3]
theorem cf_unread (h : errI b ≠ 0) : AV.tuple [encC cf0, .lit (.int .i64 0), .lit (.int .i64 (errI b))] = .tuple [encC (cfC b), .lit (.int .i64 (cfN b : Int)), .lit (.int .i64 (cfE b))] := by
  have hr : readableB b = false := by
    cases hb : readableB b with
    | false => rfl
    | true => unfold errI at h; rw [hb] at h; exact absurd rfl h
  have he : errI b = 2 := by unfold errI; rw [hr]; rfl
  have h3 : cfE b = 2 := by unfold cfE; rw [if_pos hr]
  have h2 : cfN b = 0 := by unfold cfN; rw [if_neg (fun hh => by rw [hr] at hh; cases hh.1)]
  have h1 : cfC b = cf0 := by unfold cfC; rw [if_neg (by rw [h3]; decide)]
  rw [he]
  exact rd_res h1 h2 h3
theorem cf_line {e1 : Int} (hrun : rawC b = runC c sn ((lexLines b).drop i)) (hi : i < (lexLines b).length) (hr : readableB b = true) (hs1 : e1 = clE sn (ftx ((lexLines b).getD i []))) (he : e1 ≠ 0) :
    AV.tuple [encC cf0, .lit (.int .i64 ((((lexLines b).getD i []).getD 0 f0).line : Int)), .lit (.int .i64 e1)] = .tuple [encC (cfC b), .lit (.int .i64 (cfN b : Int)), .lit (.int .i64 (cfE b))] := by
  have hraw := hrun.trans (run_bad hi (by rw [← hs1]; exact he))
  have h1 : (rawC b).1 = e1 := by rw [hraw, hs1]
  have h3 : cfE b = e1 := by unfold cfE; rw [if_neg (by rw [hr]; decide), if_pos (by rw [h1]; exact he), h1]
  have h2 : cfN b = (((lexLines b).getD i []).getD 0 f0).line := by unfold cfN; rw [if_pos ⟨hr, by rw [h1]; exact he⟩, hraw]
  exact rd_res (by unfold cfC; rw [if_neg (by rw [h3]; exact he)]) h2 h3
theorem raw_end (hrun : rawC b = runC c sn ((lexLines b).drop i)) (hi : (lexLines b).length ≤ i) : rawC b = (0, 0, c, sn) := hrun.trans (run_end hi)
theorem cf_few (hrun : rawC b = runC c sn ((lexLines b).drop i)) (hi : (lexLines b).length ≤ i) (hr : readableB b = true) (hl : sn.length < 6) :
    AV.tuple [encC cf0, .lit (.int .i64 0), .lit (.int .i64 4)] = .tuple [encC (cfC b), .lit (.int .i64 (cfN b : Int)), .lit (.int .i64 (cfE b))] := by
  have hraw := raw_end hrun hi
  have h3 : cfE b = 4 := by unfold cfE; rw [if_neg (by rw [hr]; decide), hraw]; simp [hl]
  exact rd_res (n := 0) (by unfold cfC; rw [if_neg (by rw [h3]; decide)]) (by unfold cfN; rw [if_neg (by rw [hraw]; simp)]) h3
theorem cf_wrong (hrun : rawC b = runC c sn ((lexLines b).drop i)) (hi : (lexLines b).length ≤ i) (hr : readableB b = true) (hl : ¬ sn.length < 6) (hc : ¬ RightC c) :
    AV.tuple [encC cf0, .lit (.int .i64 0), .lit (.int .i64 1)] = .tuple [encC (cfC b), .lit (.int .i64 (cfN b : Int)), .lit (.int .i64 (cfE b))] := by
  have hraw := raw_end hrun hi
  have h3 : cfE b = 1 := by unfold cfE; rw [if_neg (by rw [hr]; decide), hraw]; simp [hl, hc]
  exact rd_res (n := 0) (by unfold cfC; rw [if_neg (by rw [h3]; decide)]) (by unfold cfN; rw [if_neg (by rw [hraw]; simp)]) h3
theorem cf_ok (hrun : rawC b = runC c sn ((lexLines b).drop i)) (hi : (lexLines b).length ≤ i) (hr : readableB b = true) (hl : ¬ sn.length < 6) (hc : RightC c) :
    AV.tuple [encC c, .lit (.int .i64 0), .lit (.int .i64 0)] = .tuple [encC (cfC b), .lit (.int .i64 (cfN b : Int)), .lit (.int .i64 (cfE b))] := by
  have hraw := raw_end hrun hi
  have h3 : cfE b = 0 := by unfold cfE; rw [if_neg (by rw [hr]; decide), hraw]; simp [hl, hc]
  exact rd_res (n := 0) (by unfold cfC; rw [if_pos h3, hraw]) (by unfold cfN; rw [if_neg (by rw [hraw]; simp)]) h3
end

set_option maxRecDepth 20000 in
theorem CRead_any (b : List UInt8) (hb : b.length ≤ 140737488355328) (M : Nat → Option (List AV)) : ACall Tryz.prog 10 [.list false 5 (byteAVs b)] M (fun r M' => r = .tuple [encC (cfC b), zI (cfN b : Int), zI (cfE b)] ∧ M = M') := by
  have hlx := lex_lens b
  refine ACall.subM ?_
  refine ACall.of Tryz.func10 rfl (n := 53) rfl rfl rfl ?_
  refine zg ?_
  refine zal [40] zero_27 [zI 0, zI 0, zI 0, zI 0, zI 0, zI 0, .list false 40 [], zI 0, zI 0, zI 0, zI 0] ?_
  refine zM (zI 0) ?_
  refine zM (zI 0) ?_
  refine zN ?_
  refine zg ?_
  refine zM (.list false 5 (byteAVs b)) ?_
  refine zc [.list false 5 (byteAVs b)] Tryz.call19 (lines_any b (by first | assumption | omega) M) ?_
  rintro _ _ ⟨rfl, rfl⟩
  refine zM (.tuple [.list false 46 ((lexLines b).map encL), zI (errI b)]) ?_
  refine zr (zx (.list false 46 ((lexLines b).map encL))) ?_
  refine zr (zx (zI (errI b))) ?_
  refine zM (.list false 46 ((lexLines b).map encL)) ?_
  refine zM (zI (errI b)) ?_
  refine zN ?_
  refine AWp.seq ?_
  refine zg ?_
  refine zM (zI (errI b)) ?_
  refine zr (zi ((errI b) != 0)) ?_
  refine zN ?_
  refine zC (b := (errI b) != 0) rfl (fun h1 => ?_) (fun h1 => ?_)
  · skip
    have h1' : (errI b) ≠ 0 := (by have hh := bne_iff_ne.1 h1; omega)
    clear h1
    refine zg ?_
    refine zr (Reader.build (xs := []) (Es := [40]) (places := places_27) rfl Tryz.underlying27 (by refine ⟨rfl, fun j p x hp hx => ?_⟩; match j, hp, hx with | _ + 0, hp, hx => cases hp) zero_27 rfl places_27_ok (cs := [zI 0, zI 0, zI 0, zI 0, zI 0, zI 0, .list false 40 [], zI 0, zI 0, zI 0, zI 0]) rfl) ?_
    refine zM (zI (errI b)) ?_
    refine zst sizeOf_27 (.agg [zI 0, zI 0, zI 0, zI 0, zI 0, zI 0, .list false 40 [], zI 0, zI 0, zI 0, zI 0]) ?_
    refine zM (zI 0) ?_
    refine zM (zI (errI b)) ?_
    refine zN ?_
    refine AWp.ret ?_
    exact ⟨.inl rfl, _, ResOf.cellTmpTmp 2 2 0 11 27 _ _ (.agg [zI 0, zI 0, zI 0, zI 0, zI 0, zI 0, .list false 40 [], zI 0, zI 0, zI 0, zI 0]) rfl rfl Tryz.underlying27 sizeOf_27 rfl (Eq.refl true) 3 (zI 0) rfl rfl 4 (zI (errI b)) rfl rfl (by decide), ⟨M, ⟨cf_unread (by assumption), rfl⟩, (fun _ _ h => h)⟩⟩
  · skip
    have h1' : ¬ ((errI b) ≠ 0) := (by have hh := bne_eq_false_iff_eq.1 h1; omega)
    clear h1
    have hrd : readableB b = true := errI_ok h1'
    refine AWp.skip ?_
    refine zg ?_
    refine AOps.allocG (Es := [0]) trivial rfl (by decide) rfl (by decide) zero_27 rfl (cells := [zI 0, zI 0, zI 0, zI 0, zI 0, zI 0, .lit (.slice none 0 0), zI 0, zI 0, zI 0, zI 0]) rfl (all_scalar rfl) (all_flat rfl) ?_
    intro id1 hid1n hid1t
    refine AOps.objList 40 6 setM_get rfl setM_setM ?_
    refine zN ?_
    refine zg ?_
    refine AOps.newMap trivial rfl (by decide) rfl ?_
    intro id2 hid2n
    have hid1id2 : id1 ≠ id2 := fun e => by subst e; have hq := (Eq.symm setM_get).trans hid2n; cases hq
    refine zM (.gmap id2) ?_
    refine zN ?_
    refine AWp.seq ?_
    refine zg ?_
    refine zM (.list false 46 ((lexLines b).map encL)) ?_
    refine zr (zL ((lexLines b).map encL) ((lexLines b).length) Tryz.underlying42 (by simp)) ?_
    refine zM (zI 0) ?_
    refine zN ?_
    refine AWp.block ?_
    refine AWp.loopE [2, 3, 4, 7, 8, 22, 23, 24] [2] (fun m s => ∃ (i : Nat) (c : Cfg) (sn : List (List UInt8)), m = (lexLines b).length - i ∧ s = ⟨[(2, .lptr 2 0), (3, zI 0), (4, zI 0), (7, .gptr id1 0), (8, .gmap id2), (22, .list false 46 ((lexLines b).map encL)), (23, zI (((lexLines b).length : Nat) : Int)), (24, zI (i : Int))], [(2, [zI 0, zI 0, zI 0, zI 0, zI 0, zI 0, .list false 40 [], zI 0, zI 0, zI 0, zI 0])], (setM (setM M id1 (cells true c)) id2 (mapA (seenS sn)))⟩ ∧ (i ≤ (lexLines b).length) ∧ (rawC b = runC c sn ((lexLines b).drop i)) ∧ (SeenOk sn) ∧ (c.thr.length ≤ i)) ?_ ?_
    · exact ⟨_, 0, cf0, [], rfl, rfl, Nat.zero_le _, rfl, ⟨List.nodup_nil, fun w hw => by cases hw⟩, Nat.zero_le _⟩
    · rintro _ _ ⟨i, c, sn, rfl, rfl, hi, hrun, hsn, hth⟩
      refine zg ?_
      refine zr (zi (decide ((i : Int) < (((lexLines b).length : Nat) : Int)))) ?_
      refine zN ?_
      refine AWp.seq ?_
      refine zC (b := decide ((i : Int) < (((lexLines b).length : Nat) : Int))) rfl (fun h2 => ?_) (fun h2 => ?_)
      · skip
        have h2' : i < ((lexLines b).length) := (by have hh := of_decide_eq_true h2; omega)
        clear h2
        refine AWp.skip ?_
        refine AWp.seq ?_
        refine AWp.block ?_
        refine zg ?_
        refine zr (zel i (.list false 50 (((lexLines b).getD i []).map encF)) Tryz.underlying42 sizeOf_46 (getD_map (l := (lexLines b)) (j := i) (by first | assumption | omega))) ?_
        refine zr (zlE (.list false 50 (((lexLines b).getD i []).map encF)) Tryz.underlying46 sizeOf_46) ?_
        refine zM (.list false 50 (((lexLines b).getD i []).map encF)) ?_
        refine zN ?_
        refine zg ?_
        refine zM (.gmap id2) ?_
        refine zM (.list false 50 (((lexLines b).getD i []).map encF)) ?_
        refine zc [.gptr id1 0, .gmap id2, .list false 50 (((lexLines b).getD i []).map encF)] Tryz.call20 (line_any (setM (setM M id1 (cells true c)) id2 (mapA (seenS sn))) c id1 id2 sn ((lexLines b).getD i []) (lex_pos (by omega)) (lex_texts (by assumption) i) (by omega) (by assumption) (fun c2 S2 => (setM (setM M id1 (cells true c2)) id2 (mapA S2))) (fun _ _ => by rw [mem2 hid1id2]) ((setM_ne (by first | assumption | exact Ne.symm (by assumption))).trans setM_get) setM_get) ?_
        rintro _ _ ⟨e1, c1, S1, rfl, rfl, hs1, hs2⟩
        have hlp := lex_pos (b := b) (i := i) (by omega)
        refine zM (zI e1) ?_
        refine zN ?_
        refine zg ?_
        refine zM (zI e1) ?_
        refine zr (zi (e1 != 0)) ?_
        refine zN ?_
        refine zC (b := e1 != 0) rfl (fun h3 => ?_) (fun h3 => ?_)
        · skip
          have h3' : e1 ≠ 0 := (by have hh := bne_iff_ne.1 h3; omega)
          clear h3
          refine AWp.seq (AWp.anyR [2, 3, 4, 7, 8, 22, 23, 24, 25, 10, 11, 32] [2] (⟨[(2, .lptr 2 0), (3, zI (((((lexLines b).getD i []).getD 0 f0).line : Nat) : Int)), (4, zI e1), (7, .gptr id1 0), (8, .gmap id2), (22, .list false 46 ((lexLines b).map encL)), (23, zI (((lexLines b).length : Nat) : Int)), (24, zI (i : Int)), (25, zB (decide ((i : Int) < (((lexLines b).length : Nat) : Int)))), (10, .list false 50 (((lexLines b).getD i []).map encF)), (11, zI e1), (32, zB (e1 != 0))], [(2, [zI 0, zI 0, zI 0, zI 0, zI 0, zI 0, .list false 40 [], zI 0, zI 0, zI 0, zI 0])], (setM (setM M id1 (cells true c1)) id2 (mapA S1))⟩) (by kernel_rfl) ?_ ?_)
          · skip
            skip
            refine zk 0 rfl (PReader.build (xs := []) (Es := [40]) (places := places_27) rfl Tryz.underlying27 (by refine ⟨rfl, fun j p x hp hx => ?_⟩; match j, hp, hx with | _ + 0, hp, hx => cases hp) zero_27 rfl places_27_ok (cs := [zI 0, zI 0, zI 0, zI 0, zI 0, zI 0, .list false 40 [], zI 0, zI 0, zI 0, zI 0]) rfl) ?_
            refine zkm 1 (.list false 50 (((lexLines b).getD i []).map encF)) ?_
            refine zk 2 rfl (PReader.elemAddr (m := 0) rfl Tryz.underlying46 sizeOf_50 rfl rfl rfl (e := encF (((lexLines b).getD i []).getD 0 f0)) (getD_map (l := ((lexLines b).getD i [])) (j := 0) (by first | assumption | omega))) ?_
            refine zk 3 rfl (PReader.fieldE rfl ⟨_, _, Tryz.underlying50, rfl, rfl, rfl, sizeOf_3⟩ (by decide) rfl) ?_
            refine zkm 5 (zI e1) ?_
            refine zq [4, 6] ⟨⟨_, rfl, ?_⟩, ⟨_, rfl, ?_⟩, trivial⟩
            · skip
              refine zr (zlE (zI (((((lexLines b).getD i []).getD 0 f0).line : Nat) : Int)) Tryz.underlying3 sizeOf_3) ?_
              refine zN ?_
              refine zq [6] ⟨⟨_, rfl, ?_⟩, trivial⟩
              · skip
                refine zst sizeOf_27 (.agg [zI 0, zI 0, zI 0, zI 0, zI 0, zI 0, .list false 40 [], zI 0, zI 0, zI 0, zI 0]) ?_
                refine zN ?_
                refine zkm 7 (zI (((((lexLines b).getD i []).getD 0 f0).line : Nat) : Int)) ?_
                refine zkm 8 (zI e1) ?_
                exact SAny.done (by kernel_rfl) rfl
            · skip
              refine zst sizeOf_27 (.agg [zI 0, zI 0, zI 0, zI 0, zI 0, zI 0, .list false 40 [], zI 0, zI 0, zI 0, zI 0]) ?_
              refine zN ?_
              refine zq [4] ⟨⟨_, rfl, ?_⟩, trivial⟩
              · skip
                refine zr (zlE (zI (((((lexLines b).getD i []).getD 0 f0).line : Nat) : Int)) Tryz.underlying3 sizeOf_3) ?_
                refine zN ?_
                refine zkm 7 (zI (((((lexLines b).getD i []).getD 0 f0).line : Nat) : Int)) ?_
                refine zkm 8 (zI e1) ?_
                exact SAny.done (by kernel_rfl) rfl
          refine AWp.ret ?_
          exact ⟨.inl rfl, _, ResOf.cellTmpTmp 2 2 0 11 27 _ _ (.agg [zI 0, zI 0, zI 0, zI 0, zI 0, zI 0, .list false 40 [], zI 0, zI 0, zI 0, zI 0]) rfl rfl Tryz.underlying27 sizeOf_27 rfl (Eq.refl true) 3 (zI (((((lexLines b).getD i []).getD 0 f0).line : Nat) : Int)) rfl rfl 4 (zI e1) rfl rfl (by decide), ⟨M, ⟨cf_line hrun (by omega) (by assumption) hs1 (by assumption), rfl⟩, (fun i x h => inc2 hid1n (non1 hid2n hid1id2) h)⟩⟩
        · skip
          have h3' : ¬ (e1 ≠ 0) := (by have hh := bne_eq_false_iff_eq.1 h3; omega)
          clear h3
          refine AWp.skip ?_
          refine AWp.region ?_
          refine zr (zw ((i : Int) + 1) ((i + 1 : Nat) : Int)) ?_
          refine zM (zI ((i + 1 : Nat) : Int)) ?_
          refine zN ?_
          have he0 := hs1.symm.trans (show e1 = 0 by omega)
          obtain ⟨rfl, rfl⟩ := hs2 (by omega)
          exact ⟨_, by omega, i + 1, clC c (ftx ((lexLines b).getD i [])), clS sn (ftx ((lexLines b).getD i [])), rfl, rfl, by omega, hrun.trans (run_ok (by omega) he0), seen_step hsn he0, Nat.le_trans clC_thr (by omega)⟩
      · skip
        have h2' : ¬ (i < ((lexLines b).length)) := (by have hh := of_decide_eq_false h2; omega)
        clear h2
        refine AWp.exit ?_
        refine AWp.seq ?_
        refine AWp.block ?_
        refine zg ?_
        refine zM (.gmap id2) ?_
        refine zr (Reader.mapLen' (S := (seenS sn)) (m := sn.length) rfl rfl rfl rfl Tryz.underlying45 rfl setM_get (seenS_len _)) ?_
        refine zc [.gptr id1 0] Tryz.call21 (numbers_any id1 (setM (setM M id1 (cells true c)) id2 (mapA (seenS sn)))) ?_
        rintro _ _ ⟨id9, T9, rfl, hid9n, hT9, rfl⟩
        have hid1id9 : id1 ≠ id9 := fun e => by subst e; have hq := (Eq.symm ((setM_ne (by first | assumption | exact Ne.symm (by assumption))).trans setM_get)).trans hid9n; cases hq
        have hid2id9 : id2 ≠ id9 := fun e => by subst e; have hq := (Eq.symm setM_get).trans hid9n; cases hq
        refine zr (Reader.mapLen' (S := T9) (m := 6) rfl rfl rfl rfl Tryz.underlying51 rfl setM_get (by have := hT9.length_eq; simpa [numS] using this)) ?_
        refine zr (zi (decide ((sn.length : Int) < (6 : Int)))) ?_
        refine zM (zB (decide ((sn.length : Int) < (6 : Int)))) ?_
        refine zN ?_
        refine zC (b := decide ((sn.length : Int) < (6 : Int))) rfl (fun h4 => ?_) (fun h4 => ?_)
        · skip
          have h4' : sn.length < 6 := (by have hh := of_decide_eq_true h4; omega)
          clear h4
          refine zg ?_
          refine zr (Reader.build (xs := []) (Es := [40]) (places := places_27) rfl Tryz.underlying27 (by refine ⟨rfl, fun j p x hp hx => ?_⟩; match j, hp, hx with | _ + 0, hp, hx => cases hp) zero_27 rfl places_27_ok (cs := [zI 0, zI 0, zI 0, zI 0, zI 0, zI 0, .list false 40 [], zI 0, zI 0, zI 0, zI 0]) rfl) ?_
          refine zst sizeOf_27 (.agg [zI 0, zI 0, zI 0, zI 0, zI 0, zI 0, .list false 40 [], zI 0, zI 0, zI 0, zI 0]) ?_
          refine zM (zI 0) ?_
          refine zM (zI 4) ?_
          refine zN ?_
          refine AWp.ret ?_
          exact ⟨.inl rfl, _, ResOf.cellTmpTmp 2 2 0 11 27 _ _ (.agg [zI 0, zI 0, zI 0, zI 0, zI 0, zI 0, .list false 40 [], zI 0, zI 0, zI 0, zI 0]) rfl rfl Tryz.underlying27 sizeOf_27 rfl (Eq.refl true) 3 (zI 0) rfl rfl 4 (zI 4) rfl rfl (by decide), ⟨M, ⟨cf_few hrun (by omega) (by assumption) (by omega), rfl⟩, (fun i x h => inc3 hid1n (non1 hid2n hid1id2) (non2 hid9n hid1id9 hid2id9) h)⟩⟩
        · skip
          have h4' : ¬ (sn.length < 6) := (by have hh := of_decide_eq_false h4; omega)
          clear h4
          refine zg ?_
          refine zr (zlG (.agg [zI c.c0, zI c.c1, zI c.c2, zI c.a0, zI c.a1, zI c.a2, .list false 40 (c.thr.map encT), zI c.per, zI c.ret, zI c.age, zI c.ded]) Tryz.underlying27 sizeOf_27 ((setM_ne (by first | assumption | exact Ne.symm (by assumption))).trans ((setM_ne (by first | assumption | exact Ne.symm (by assumption))).trans setM_get))) ?_
          refine zc [encC c] Tryz.call16 (CRight_any c (by first | omega | (simp only [List.length_nil]; omega) | assumption) (setM (setM (setM M id1 (cells true c)) id2 (mapA (seenS sn))) id9 (mapA T9))) ?_
          rintro _ _ ⟨rfl, rfl⟩
          refine zr (zn (decide (RightC c))) ?_
          refine zM (zB (!(decide (RightC c)))) ?_
          refine zN ?_
          refine zC (b := !(decide (RightC c))) rfl (fun h5 => ?_) (fun h5 => ?_)
          · skip
            have h5' : ¬ RightC c := (of_decide_eq_false (bnot_t h5))
            clear h5
            refine zg ?_
            refine zr (Reader.build (xs := []) (Es := [40]) (places := places_27) rfl Tryz.underlying27 (by refine ⟨rfl, fun j p x hp hx => ?_⟩; match j, hp, hx with | _ + 0, hp, hx => cases hp) zero_27 rfl places_27_ok (cs := [zI 0, zI 0, zI 0, zI 0, zI 0, zI 0, .list false 40 [], zI 0, zI 0, zI 0, zI 0]) rfl) ?_
            refine zst sizeOf_27 (.agg [zI 0, zI 0, zI 0, zI 0, zI 0, zI 0, .list false 40 [], zI 0, zI 0, zI 0, zI 0]) ?_
            refine zM (zI 0) ?_
            refine zM (zI 1) ?_
            refine zN ?_
            refine AWp.ret ?_
            exact ⟨.inl rfl, _, ResOf.cellTmpTmp 2 2 0 11 27 _ _ (.agg [zI 0, zI 0, zI 0, zI 0, zI 0, zI 0, .list false 40 [], zI 0, zI 0, zI 0, zI 0]) rfl rfl Tryz.underlying27 sizeOf_27 rfl (Eq.refl true) 3 (zI 0) rfl rfl 4 (zI 1) rfl rfl (by decide), ⟨M, ⟨cf_wrong hrun (by omega) (by assumption) (by omega) (by assumption), rfl⟩, (fun i x h => inc3 hid1n (non1 hid2n hid1id2) (non2 hid9n hid1id9 hid2id9) h)⟩⟩
          · skip
            have h5' : RightC c := (of_decide_eq_true (bnot_f h5))
            clear h5
            refine AWp.skip ?_
            refine zg ?_
            refine zr (zlG (.agg [zI c.c0, zI c.c1, zI c.c2, zI c.a0, zI c.a1, zI c.a2, .list false 40 (c.thr.map encT), zI c.per, zI c.ret, zI c.age, zI c.ded]) Tryz.underlying27 sizeOf_27 ((setM_ne (by first | assumption | exact Ne.symm (by assumption))).trans ((setM_ne (by first | assumption | exact Ne.symm (by assumption))).trans setM_get))) ?_
            refine zst sizeOf_27 (.agg [zI c.c0, zI c.c1, zI c.c2, zI c.a0, zI c.a1, zI c.a2, .list false 40 (c.thr.map encT), zI c.per, zI c.ret, zI c.age, zI c.ded]) ?_
            refine zM (zI 0) ?_
            refine zM (zI 0) ?_
            refine zN ?_
            refine AWp.ret ?_
            exact ⟨.inl rfl, _, ResOf.cellTmpTmp 2 2 0 11 27 _ _ (.agg [zI c.c0, zI c.c1, zI c.c2, zI c.a0, zI c.a1, zI c.a2, .list false 40 (c.thr.map encT), zI c.per, zI c.ret, zI c.age, zI c.ded]) rfl rfl Tryz.underlying27 sizeOf_27 rfl (Eq.refl true) 3 (zI 0) rfl rfl 4 (zI 0) rfl rfl (by decide), ⟨M, ⟨cf_ok hrun (by omega) (by assumption) (by omega) (by assumption), rfl⟩, (fun i x h => inc3 hid1n (non1 hid2n hid1id2) (non2 hid9n hid1id9 hid2id9) h)⟩⟩
end
section
open Go.RowKit
theorem PrintZ (n : Int) (hn : n.toNat ≤ 9223372036854775807) (M : Nat → Option (List AV)) : ACall Tryz.prog 29 [.lit (.int .i64 n)] M (fun r M' => r = .str (zW n) ∧ M = M') := Print_any n hn M
theorem rPrintZ (n : Int) (h0 : 0 ≤ n) (hn : n ≤ 9223372036854775807) (M : Nat → Option (List AV)) : ACall Tryz.prog 39 [.lit (.int .i64 n)] M (fun r M' => r = .str (zW n) ∧ M = M') := rPrint_int n h0 hn M
theorem joinZ {c : Cfg} (hr : PrC c) (hca : InR c) (M : Nat → Option (List AV)) : ACall Tryz.prog 32 [.list false 46 (((linesC c).map fldsOf).map encL)] M (fun r M' => r = .str (textC c) ∧ M = M') :=
  (join_any ((linesC c).map fldsOf) (lc_small hr) (lc_ne c) (by have := lc_len hr hca; omega) M).mono fun r M' ⟨h1, h2⟩ => ⟨h1.trans (congrArg AV.str (joint_fo _)), h2⟩

set_option maxRecDepth 20000 in
theorem fields_any (w : List UInt8) (ws : List (List UInt8)) (hws : ws.length ≤ 4294967296) (M : Nat → Option (List AV)) : ACall Tryz.prog 30 [.str w, .list false 9 (ws.map AV.str)] M (fun r M' => r = .list true 50 ((fldsOf (w :: ws)).map encF) ∧ M = M') := by
  refine ACall.of Tryz.func30 rfl (n := 24) rfl rfl rfl ?_
  refine zg ?_
  refine AOps.nilList 50 trivial rfl (by decide) (.inl rfl) ?_
  refine zN ?_
  refine zg ?_
  refine zM (.str w) ?_
  refine zr (Reader.build (xs := [(0, .str w)]) (Es := []) (places := places_50) rfl Tryz.underlying50 (by refine ⟨rfl, fun j p x hp hx => ?_⟩; match j, hp, hx with | 0, hp, hx => cases hp; cases hx; exact ⟨rfl, .inl ⟨rfl, rfl⟩, rfl, rfl⟩ | _ + 1, hp, hx => cases hp) zero_50 rfl places_50_ok (cs := [.str w, zI 0, zI 0]) rfl) ?_
  refine zbS [] [.agg [.str w, zI 0, zI 0]] Tryz.underlying46 Tryz.i50 ?_
  refine zT (v := .list true 50 [.agg [.str w, zI 0, zI 0]]) rfl ?_
  refine zN ?_
  refine AWp.seq ?_
  refine zg ?_
  refine zM (.list false 9 (ws.map AV.str)) ?_
  refine zr (zL (ws.map AV.str) ws.length Tryz.underlying38 (by simp)) ?_
  refine zM (zI 0) ?_
  refine zN ?_
  refine AWp.block ?_
  refine AWp.loopE [5, 11, 12, 13] [] (fun m s => ∃ (i : Nat), m = ws.length - i ∧ s = ⟨[(5, .list true 50 ((fldsOf (w :: ws.take i)).map encF)), (11, .list false 9 (ws.map AV.str)), (12, zI (ws.length : Int)), (13, zI (i : Int))], [], M⟩ ∧ (i ≤ ws.length)) ?_ ?_
  · exact ⟨_, 0, rfl, rfl, Nat.zero_le _⟩
  · rintro _ _ ⟨i, rfl, rfl, hi⟩
    refine zg ?_
    refine zr (zi (decide ((i : Int) < (ws.length : Int)))) ?_
    refine zN ?_
    refine AWp.seq ?_
    refine zC (b := decide ((i : Int) < (ws.length : Int))) rfl (fun h1 => ?_) (fun h1 => ?_)
    · skip
      have h1' : i < ws.length := (by have hh := of_decide_eq_true h1; omega)
      clear h1
      refine AWp.skip ?_
      refine AWp.seq ?_
      refine AWp.block ?_
      refine zg ?_
      refine zr (zel i (.str (ws.getD i [])) Tryz.underlying38 sizeOf_9 (strs_at (by first | omega | (show _ < 0; omega)))) ?_
      refine zr (zlE (.str (ws.getD i [])) Tryz.underlying9 sizeOf_9) ?_
      refine zM (.str (ws.getD i [])) ?_
      refine zN ?_
      refine AWp.region ?_
      refine zT (v := .list true 50 ((fldsOf (w :: ws.take i)).map encF)) rfl ?_
      refine zM (.str (ws.getD i [])) ?_
      refine zr (Reader.build (xs := [(0, .str (ws.getD i []))]) (Es := []) (places := places_50) rfl Tryz.underlying50 (by refine ⟨rfl, fun j p x hp hx => ?_⟩; match j, hp, hx with | 0, hp, hx => cases hp; cases hx; exact ⟨rfl, .inl ⟨rfl, rfl⟩, rfl, rfl⟩ | _ + 1, hp, hx => cases hp) zero_50 rfl places_50_ok (cs := [.str (ws.getD i []), zI 0, zI 0]) rfl) ?_
      refine zbS [] [.agg [.str (ws.getD i []), zI 0, zI 0]] Tryz.underlying46 Tryz.i50 ?_
      refine zap (m1 := (i + 1)) (m2 := 1) 32 ((fldsOf (w :: ws.take i)).map encF) [.agg [.str (ws.getD i []), zI 0, zI 0]] ((fldsOf (w :: ws.take (i + 1))).map encF) Tryz.underlying46 Tryz.underlying46 Tryz.i50 (fo_len (by omega)) rfl (fo_snoc (by omega)) ?_
      refine zT (v := .list true 50 ((fldsOf (w :: ws.take (i + 1))).map encF)) rfl ?_
      refine zN ?_
      refine AWp.region ?_
      refine zr (zw ((i : Int) + 1) ((i + 1 : Nat) : Int)) ?_
      refine zM (zI ((i + 1 : Nat) : Int)) ?_
      refine zN ?_
      exact ⟨_, by omega, i + 1, rfl, rfl, by omega⟩
    · skip
      have h1' : ¬ (i < ws.length) := (by have hh := of_decide_eq_false h1; omega)
      clear h1
      refine AWp.exit ?_
      refine zg ?_
      refine zT (v := .list true 50 ((fldsOf (w :: ws.take i)).map encF)) rfl ?_
      refine zT (v := .list true 50 ((fldsOf (w :: ws.take i)).map encF)) rfl ?_
      refine zN ?_
      refine AWp.ret ?_
      exact ⟨.inl rfl, _, ResOf.one 4 (.list true 50 ((fldsOf (w :: ws.take i)).map encF)) rfl rfl, ⟨by rw [List.take_of_length_le (by omega)], rfl⟩⟩

set_option maxRecDepth 20000 in
theorem CPrint_any (c : Cfg) (hca : InR c) (hcl : c.thr.length ≤ 140737488355328) (M : Nat → Option (List AV)) : ACall Tryz.prog 15 [encC c] M (fun r M' => r = prtC c ∧ M = M') := by
  have ⟨q0, q1, q2, q3, q4, q5, q6, q7, q8, q9, _⟩ := hca
  refine ACall.of Tryz.func15 rfl (n := 90) rfl rfl rfl ?_
  refine zg ?_
  refine AOps.box trivial rfl (by decide) rfl (noL rfl) rfl (v := encC c) (.inl ⟨rfl, rfl⟩) rfl rfl (all_flat rfl) ?_
  refine AOps.freezeK 1 [0, 1] [] (s' := ⟨[(0, encC c), (1, .eptr (encC c) 0)], [], M⟩) rfl rfl rfl ?_
  refine zM (.str []) ?_
  refine zM (zI 0) ?_
  refine zN ?_
  refine AWp.seq ?_
  refine zg ?_
  refine zr (zlE (encC c) Tryz.underlying27 sizeOf_27) ?_
  refine zc [encC c] Tryz.call16 (CRight_any c (by first | omega | (simp only [List.length_nil]; omega) | assumption) M) ?_
  rintro _ _ ⟨rfl, rfl⟩
  refine zr (zn (decide (RightC c))) ?_
  refine zN ?_
  refine zC (b := !(decide (RightC c))) rfl (fun h1 => ?_) (fun h1 => ?_)
  · skip
    have h1' : ¬ RightC c := (of_decide_eq_false (bnot_t h1))
    clear h1
    refine zg ?_
    refine zM (.str []) ?_
    refine zM (zI 1) ?_
    refine zN ?_
    refine AWp.ret ?_
    exact ⟨.inl rfl, _, ResOf.two 2 3 (.str []) (zI 1) rfl rfl (.inl rfl) (.inl rfl) (by decide), ⟨prt_no (by assumption), rfl⟩⟩
  · skip
    have h1' : RightC c := (of_decide_eq_true (bnot_f h1))
    clear h1
    have hR := h1'
    have hr := prC hR
    have hr9 := hr.len
    refine AWp.skip ?_
    refine zg ?_
    refine zM (.fn 29 []) ?_
    refine zN ?_
    refine AWp.seq (AWp.anyV [0, 1, 2, 3, 10, 4, 5] [] (⟨[(0, encC c), (1, .eptr (encC c) 0), (2, .str []), (3, zI 0), (10, zB (!(decide (RightC c)))), (4, .fn 29 []), (5, .list true 46 [.list false 50 ((fldsOf ([99, 97, 112, 97, 99, 105, 116, 121] :: [zW c.c0, zW c.c1, zW c.c2])).map encF), .list false 50 ((fldsOf ([97, 108, 108, 111, 99, 97, 116, 97, 98, 108, 101] :: [zW c.a0, zW c.a1, zW c.a2])).map encF)])], [], M⟩) [[(11, .fn 29 [])], [(12, .eptr (encC c) 0)], [(13, .eptr (encC c) 0)], [(14, zI c.c0)], [(15, .str (zW c.c0))], [(16, .fn 29 [])], [(17, .eptr (encC c) 0)], [(18, .eptr (encC c) 1)], [(19, zI c.c1)], [(20, .str (zW c.c1))], [(21, .fn 29 [])], [(22, .eptr (encC c) 0)], [(23, .eptr (encC c) 2)], [(24, zI c.c2)], [(25, .str (zW c.c2))], [(26, .list true 9 [.str (zW c.c0), .str (zW c.c1), .str (zW c.c2)])], [(27, .list true 50 ((fldsOf ([99, 97, 112, 97, 99, 105, 116, 121] :: [zW c.c0, zW c.c1, zW c.c2])).map encF))], [(28, .fn 29 [])], [(29, .eptr (encC c) 3)], [(30, .eptr (encC c) 3)], [(31, zI c.a0)], [(32, .str (zW c.a0))], [(33, .fn 29 [])], [(34, .eptr (encC c) 3)], [(35, .eptr (encC c) 4)], [(36, zI c.a1)], [(37, .str (zW c.a1))], [(38, .fn 29 [])], [(39, .eptr (encC c) 3)], [(40, .eptr (encC c) 5)], [(41, zI c.a2)], [(42, .str (zW c.a2))], [(43, .list true 9 [.str (zW c.a0), .str (zW c.a1), .str (zW c.a2)])], [(44, .list true 50 ((fldsOf ([97, 108, 108, 111, 99, 97, 116, 97, 98, 108, 101] :: [zW c.a0, zW c.a1, zW c.a2])).map encF))], [(45, .list true 46 [.list false 50 ((fldsOf ([99, 97, 112, 97, 99, 105, 116, 121] :: [zW c.c0, zW c.c1, zW c.c2])).map encF), .list false 50 ((fldsOf ([97, 108, 108, 111, 99, 97, 116, 97, 98, 108, 101] :: [zW c.a0, zW c.a1, zW c.a2])).map encF)])], [(5, .list true 46 [.list false 50 ((fldsOf ([99, 97, 112, 97, 99, 105, 116, 121] :: [zW c.c0, zW c.c1, zW c.c2])).map encF), .list false 50 ((fldsOf ([97, 108, 108, 111, 99, 97, 116, 97, 98, 108, 101] :: [zW c.a0, zW c.a1, zW c.a2])).map encF)]), (45, .list false 46 [.list false 50 ((fldsOf ([99, 97, 112, 97, 99, 105, 116, 121] :: [zW c.c0, zW c.c1, zW c.c2])).map encF), .list false 50 ((fldsOf ([97, 108, 108, 111, 99, 97, 116, 97, 98, 108, 101] :: [zW c.a0, zW c.a1, zW c.a2])).map encF)])]] [[(4, none, .fn 29 [])], [(1, none, .eptr (encC c) 0)], [(12, some 1, .eptr (encC c) 0)], [(13, some 2, .eptr (encC c) 0)], [(11, some 0, .fn 29 []), (14, some 3, zI c.c0)], [(4, none, .fn 29 [])], [(1, none, .eptr (encC c) 0)], [(17, some 6, .eptr (encC c) 0)], [(18, some 7, .eptr (encC c) 1)], [(16, some 5, .fn 29 []), (19, some 8, zI c.c1)], [(4, none, .fn 29 [])], [(1, none, .eptr (encC c) 0)], [(22, some 11, .eptr (encC c) 0)], [(23, some 12, .eptr (encC c) 2)], [(21, some 10, .fn 29 []), (24, some 13, zI c.c2)], [(15, some 4, .str (zW c.c0)), (20, some 9, .str (zW c.c1)), (25, some 14, .str (zW c.c2))], [(26, some 15, .list true 9 [.str (zW c.c0), .str (zW c.c1), .str (zW c.c2)])], [(4, none, .fn 29 [])], [(1, none, .eptr (encC c) 0)], [(29, some 18, .eptr (encC c) 3)], [(30, some 19, .eptr (encC c) 3)], [(28, some 17, .fn 29 []), (31, some 20, zI c.a0)], [(4, none, .fn 29 [])], [(1, none, .eptr (encC c) 0)], [(34, some 23, .eptr (encC c) 3)], [(35, some 24, .eptr (encC c) 4)], [(33, some 22, .fn 29 []), (36, some 25, zI c.a1)], [(4, none, .fn 29 [])], [(1, none, .eptr (encC c) 0)], [(39, some 28, .eptr (encC c) 3)], [(40, some 29, .eptr (encC c) 5)], [(38, some 27, .fn 29 []), (41, some 30, zI c.a2)], [(32, some 21, .str (zW c.a0)), (37, some 26, .str (zW c.a1)), (42, some 31, .str (zW c.a2))], [(43, some 32, .list true 9 [.str (zW c.a0), .str (zW c.a1), .str (zW c.a2)])], [(27, some 16, .list true 50 ((fldsOf ([99, 97, 112, 97, 99, 105, 116, 121] :: [zW c.c0, zW c.c1, zW c.c2])).map encF)), (44, some 33, .list true 50 ((fldsOf ([97, 108, 108, 111, 99, 97, 116, 97, 98, 108, 101] :: [zW c.a0, zW c.a1, zW c.a2])).map encF))], [(45, some 34, .list true 46 [.list false 50 ((fldsOf ([99, 97, 112, 97, 99, 105, 116, 121] :: [zW c.c0, zW c.c1, zW c.c2])).map encF), .list false 50 ((fldsOf ([97, 108, 108, 111, 99, 97, 116, 97, 98, 108, 101] :: [zW c.a0, zW c.a1, zW c.a2])).map encF)])]] ?_ ?_)
    · skip
      refine hop1 (fun fr h => ?_) ?_
      · obtain ⟨_h0, -⟩ := h
        refine zM (.fn 29 []) ?_
        exact zN rfl
      refine hop1 (fun fr h => ?_) ?_
      · obtain ⟨_h0, -⟩ := h
        refine zr (zfE Tryz.underlying27 sizeOf_24) ?_
        exact zN rfl
      refine hop1 (fun fr h => ?_) ?_
      · obtain ⟨_h0, -⟩ := h
        refine zr (ziE 0 Tryz.underlying24 sizeOf_3) ?_
        exact zN rfl
      refine hop1 (fun fr h => ?_) ?_
      · obtain ⟨_h0, -⟩ := h
        refine zr (zlE (zI c.c0) Tryz.underlying3 sizeOf_3) ?_
        exact zN rfl
      refine hop1 (fun fr h => ?_) ?_
      · obtain ⟨_h0, _h1, -⟩ := h
        refine zcv [zI c.c0] [] [zI c.c0] Tryz.call29 (PrintZ c.c0 (by omega) M) ?_
        rintro _ _ ⟨rfl, rfl⟩
        exact zN rfl
      refine hop1 (fun fr h => ?_) ?_
      · obtain ⟨_h0, -⟩ := h
        refine zM (.fn 29 []) ?_
        exact zN rfl
      refine hop1 (fun fr h => ?_) ?_
      · obtain ⟨_h0, -⟩ := h
        refine zr (zfE Tryz.underlying27 sizeOf_24) ?_
        exact zN rfl
      refine hop1 (fun fr h => ?_) ?_
      · obtain ⟨_h0, -⟩ := h
        refine zr (ziE 1 Tryz.underlying24 sizeOf_3) ?_
        exact zN rfl
      refine hop1 (fun fr h => ?_) ?_
      · obtain ⟨_h0, -⟩ := h
        refine zr (zlE (zI c.c1) Tryz.underlying3 sizeOf_3) ?_
        exact zN rfl
      refine hop1 (fun fr h => ?_) ?_
      · obtain ⟨_h0, _h1, -⟩ := h
        refine zcv [zI c.c1] [] [zI c.c1] Tryz.call29 (PrintZ c.c1 (by omega) M) ?_
        rintro _ _ ⟨rfl, rfl⟩
        exact zN rfl
      refine hop1 (fun fr h => ?_) ?_
      · obtain ⟨_h0, -⟩ := h
        refine zM (.fn 29 []) ?_
        exact zN rfl
      refine hop1 (fun fr h => ?_) ?_
      · obtain ⟨_h0, -⟩ := h
        refine zr (zfE Tryz.underlying27 sizeOf_24) ?_
        exact zN rfl
      refine hop1 (fun fr h => ?_) ?_
      · obtain ⟨_h0, -⟩ := h
        refine zr (ziE 2 Tryz.underlying24 sizeOf_3) ?_
        exact zN rfl
      refine hop1 (fun fr h => ?_) ?_
      · obtain ⟨_h0, -⟩ := h
        refine zr (zlE (zI c.c2) Tryz.underlying3 sizeOf_3) ?_
        exact zN rfl
      refine hop1 (fun fr h => ?_) ?_
      · obtain ⟨_h0, _h1, -⟩ := h
        refine zcv [zI c.c2] [] [zI c.c2] Tryz.call29 (PrintZ c.c2 (by omega) M) ?_
        rintro _ _ ⟨rfl, rfl⟩
        exact zN rfl
      refine hop1 (fun fr h => ?_) ?_
      · obtain ⟨_h0, _h1, _h2, -⟩ := h
        refine zbS [] [.str (zW c.c0), .str (zW c.c1), .str (zW c.c2)] Tryz.underlying38 Tryz.i9 ?_
        exact zN rfl
      refine hop1 (fun fr h => ?_) ?_
      · obtain ⟨_h0, -⟩ := h
        refine zc [.str [99, 97, 112, 97, 99, 105, 116, 121], .list false 9 ([zW c.c0, zW c.c1, zW c.c2].map AV.str)] Tryz.call30 (fields_any [99, 97, 112, 97, 99, 105, 116, 121] [zW c.c0, zW c.c1, zW c.c2] (by simp only [List.length_cons, List.length_nil]; omega) M) ?_
        rintro _ _ ⟨rfl, rfl⟩
        exact zN rfl
      refine hop1 (fun fr h => ?_) ?_
      · obtain ⟨_h0, -⟩ := h
        refine zM (.fn 29 []) ?_
        exact zN rfl
      refine hop1 (fun fr h => ?_) ?_
      · obtain ⟨_h0, -⟩ := h
        refine zr (zfE Tryz.underlying27 sizeOf_24) ?_
        exact zN rfl
      refine hop1 (fun fr h => ?_) ?_
      · obtain ⟨_h0, -⟩ := h
        refine zr (ziE 0 Tryz.underlying24 sizeOf_3) ?_
        exact zN rfl
      refine hop1 (fun fr h => ?_) ?_
      · obtain ⟨_h0, -⟩ := h
        refine zr (zlE (zI c.a0) Tryz.underlying3 sizeOf_3) ?_
        exact zN rfl
      refine hop1 (fun fr h => ?_) ?_
      · obtain ⟨_h0, _h1, -⟩ := h
        refine zcv [zI c.a0] [] [zI c.a0] Tryz.call29 (PrintZ c.a0 (by omega) M) ?_
        rintro _ _ ⟨rfl, rfl⟩
        exact zN rfl
      refine hop1 (fun fr h => ?_) ?_
      · obtain ⟨_h0, -⟩ := h
        refine zM (.fn 29 []) ?_
        exact zN rfl
      refine hop1 (fun fr h => ?_) ?_
      · obtain ⟨_h0, -⟩ := h
        refine zr (zfE Tryz.underlying27 sizeOf_24) ?_
        exact zN rfl
      refine hop1 (fun fr h => ?_) ?_
      · obtain ⟨_h0, -⟩ := h
        refine zr (ziE 1 Tryz.underlying24 sizeOf_3) ?_
        exact zN rfl
      refine hop1 (fun fr h => ?_) ?_
      · obtain ⟨_h0, -⟩ := h
        refine zr (zlE (zI c.a1) Tryz.underlying3 sizeOf_3) ?_
        exact zN rfl
      refine hop1 (fun fr h => ?_) ?_
      · obtain ⟨_h0, _h1, -⟩ := h
        refine zcv [zI c.a1] [] [zI c.a1] Tryz.call29 (PrintZ c.a1 (by omega) M) ?_
        rintro _ _ ⟨rfl, rfl⟩
        exact zN rfl
      refine hop1 (fun fr h => ?_) ?_
      · obtain ⟨_h0, -⟩ := h
        refine zM (.fn 29 []) ?_
        exact zN rfl
      refine hop1 (fun fr h => ?_) ?_
      · obtain ⟨_h0, -⟩ := h
        refine zr (zfE Tryz.underlying27 sizeOf_24) ?_
        exact zN rfl
      refine hop1 (fun fr h => ?_) ?_
      · obtain ⟨_h0, -⟩ := h
        refine zr (ziE 2 Tryz.underlying24 sizeOf_3) ?_
        exact zN rfl
      refine hop1 (fun fr h => ?_) ?_
      · obtain ⟨_h0, -⟩ := h
        refine zr (zlE (zI c.a2) Tryz.underlying3 sizeOf_3) ?_
        exact zN rfl
      refine hop1 (fun fr h => ?_) ?_
      · obtain ⟨_h0, _h1, -⟩ := h
        refine zcv [zI c.a2] [] [zI c.a2] Tryz.call29 (PrintZ c.a2 (by omega) M) ?_
        rintro _ _ ⟨rfl, rfl⟩
        exact zN rfl
      refine hop1 (fun fr h => ?_) ?_
      · obtain ⟨_h0, _h1, _h2, -⟩ := h
        refine zbS [] [.str (zW c.a0), .str (zW c.a1), .str (zW c.a2)] Tryz.underlying38 Tryz.i9 ?_
        exact zN rfl
      refine hop1 (fun fr h => ?_) ?_
      · obtain ⟨_h0, -⟩ := h
        refine zc [.str [97, 108, 108, 111, 99, 97, 116, 97, 98, 108, 101], .list false 9 ([zW c.a0, zW c.a1, zW c.a2].map AV.str)] Tryz.call30 (fields_any [97, 108, 108, 111, 99, 97, 116, 97, 98, 108, 101] [zW c.a0, zW c.a1, zW c.a2] (by simp only [List.length_cons, List.length_nil]; omega) M) ?_
        rintro _ _ ⟨rfl, rfl⟩
        exact zN rfl
      refine hop1 (fun fr h => ?_) ?_
      · obtain ⟨_h0, _h1, -⟩ := h
        refine zbS [50, 50] [.list false 50 ((fldsOf ([99, 97, 112, 97, 99, 105, 116, 121] :: [zW c.c0, zW c.c1, zW c.c2])).map encF), .list false 50 ((fldsOf ([97, 108, 108, 111, 99, 97, 116, 97, 98, 108, 101] :: [zW c.a0, zW c.a1, zW c.a2])).map encF)] Tryz.underlying42 Tryz.i46 ?_
        exact zN rfl
      refine hop1 (fun fr h => ?_) ?_
      · obtain ⟨_h0, -⟩ := h
        refine AOps.steal trivial rfl (by decide) (by decide) (.inr rfl) (v := .list true 46 [.list false 50 ((fldsOf ([99, 97, 112, 97, 99, 105, 116, 121] :: [zW c.c0, zW c.c1, zW c.c2])).map encF), .list false 50 ((fldsOf ([97, 108, 108, 111, 99, 97, 116, 97, 98, 108, 101] :: [zW c.a0, zW c.a1, zW c.a2])).map encF)]) (by first | rfl | assumption) ?_
        exact zN rfl
      exact hop0
    refine AWp.seq ?_
    refine zg ?_
    refine zr (zfE Tryz.underlying27 sizeOf_25) ?_
    refine zr (zlE (.list false 40 (c.thr.map encT)) Tryz.underlying25 sizeOf_25) ?_
    refine zr (zL (c.thr.map encT) c.thr.length Tryz.underlying25 (by simp)) ?_
    refine zM (zI 0) ?_
    refine zN ?_
    refine AWp.block ?_
    refine AWp.loopE [1, 4, 5, 47, 48, 49] [] (fun m s => ∃ (i : Nat), m = c.thr.length - i ∧ s = ⟨[(1, .eptr (encC c) 0), (4, .fn 29 []), (5, .list true 46 (((hdL c ++ (thL c).take i).map fldsOf).map encL)), (47, .list false 40 (c.thr.map encT)), (48, zI (c.thr.length : Int)), (49, zI (i : Int))], [], M⟩ ∧ (i ≤ c.thr.length)) ?_ ?_
    · exact ⟨_, 0, rfl, rfl, Nat.zero_le _⟩
    · rintro _ _ ⟨i, rfl, rfl, hi⟩
      refine zg ?_
      refine zr (zi (decide ((i : Int) < (c.thr.length : Int)))) ?_
      refine zN ?_
      refine AWp.seq ?_
      refine zC (b := decide ((i : Int) < (c.thr.length : Int))) rfl (fun h2 => ?_) (fun h2 => ?_)
      · skip
        have h2' : i < c.thr.length := (by have hh := of_decide_eq_true h2; omega)
        clear h2
        refine AWp.skip ?_
        refine AWp.seq ?_
        refine AWp.block ?_
        refine zg ?_
        refine zr (zel i (encT (c.thr.getD i t0)) Tryz.underlying25 sizeOf_40 (thr_at (by omega))) ?_
        refine zr (zlE (encT (c.thr.getD i t0)) Tryz.underlying40 sizeOf_40) ?_
        refine zal [] zero_40 [zI 0, zI 0, zI 0, zB false, zI 0] ?_
        refine zst sizeOf_40 (encT (c.thr.getD i t0)) ?_
        refine zN ?_
        refine AWp.region ?_
        refine zT (v := .list true 46 (((hdL c ++ (thL c).take i).map fldsOf).map encL)) rfl ?_
        refine zr (zlL (.agg [zI ((c.thr.getD i t0).sig), zI ((c.thr.getD i t0).pct), zI ((c.thr.getD i t0).amt), zB ((c.thr.getD i t0).soft), zI ((c.thr.getD i t0).gr)]) Tryz.underlying40 sizeOf_40) ?_
        refine zc [encT (c.thr.getD i t0)] Tryz.call31 (TPrint_any (c.thr.getD i t0) (thr_r hr (by omega)) (hca.thr _ (thr_mem2 (by omega))) M) ?_
        rintro _ _ ⟨rfl, rfl⟩
        refine zbS [] [.str (printT (c.thr.getD i t0))] Tryz.underlying38 Tryz.i9 ?_
        refine zc [.str [116, 104, 114, 101, 115, 104, 111, 108, 100], .list false 9 ([printT (c.thr.getD i t0)].map AV.str)] Tryz.call30 (fields_any [116, 104, 114, 101, 115, 104, 111, 108, 100] [printT (c.thr.getD i t0)] (by simp only [List.length_cons, List.length_nil]; omega) M) ?_
        rintro _ _ ⟨rfl, rfl⟩
        refine zbS [50] [.list false 50 ((fldsOf ([116, 104, 114, 101, 115, 104, 111, 108, 100] :: [printT (c.thr.getD i t0)])).map encF)] Tryz.underlying42 Tryz.i46 ?_
        refine zap (m1 := (i + 2)) (m2 := 1) 24 (((hdL c ++ (thL c).take i).map fldsOf).map encL) [.list false 50 ((fldsOf ([116, 104, 114, 101, 115, 104, 111, 108, 100] :: [printT (c.thr.getD i t0)])).map encF)] (((hdL c ++ (thL c).take (i + 1)).map fldsOf).map encL) Tryz.underlying42 Tryz.underlying42 Tryz.i46 (hl_len (by omega)) rfl (th_snoc (by omega)) ?_
        refine zT (v := .list true 46 (((hdL c ++ (thL c).take (i + 1)).map fldsOf).map encL)) rfl ?_
        refine zN ?_
        refine AWp.region ?_
        refine zr (zw ((i : Int) + 1) ((i + 1 : Nat) : Int)) ?_
        refine zM (zI ((i + 1 : Nat) : Int)) ?_
        refine zN ?_
        exact ⟨_, by omega, i + 1, rfl, rfl, by omega⟩
      · skip
        have h2' : ¬ (i < c.thr.length) := (by have hh := of_decide_eq_false h2; omega)
        clear h2
        refine AWp.exit ?_
        refine AWp.seq (AWp.anyV [1, 4, 5, 47, 48, 49, 50] [] (⟨[(1, .eptr (encC c) 0), (4, .fn 29 []), (5, .list true 46 (((linesC c).map fldsOf).map encL)), (47, .list false 40 (c.thr.map encT)), (48, zI (c.thr.length : Int)), (49, zI (i : Int)), (50, zB (decide ((i : Int) < (c.thr.length : Int))))], [], M⟩) [[(61, .list true 46 (((hdL c ++ (thL c).take i).map fldsOf).map encL)), (5, .list false 46 (((hdL c ++ (thL c).take i).map fldsOf).map encL))], [(62, .fn 29 [])], [(63, .eptr (encC c) 7)], [(64, zI c.per)], [(65, .str (zW c.per))], [(66, .list true 9 [.str (zW c.per)])], [(67, .list true 50 ((fldsOf ([112, 101, 114, 105, 111, 100] :: [zW c.per])).map encF))], [(68, .fn 29 [])], [(69, .eptr (encC c) 8)], [(70, zI c.ret)], [(71, .str (zW c.ret))], [(72, .list true 9 [.str (zW c.ret)])], [(73, .list true 50 ((fldsOf ([114, 101, 116, 114, 105, 101, 115] :: [zW c.ret])).map encF))], [(74, .fn 29 [])], [(75, .eptr (encC c) 9)], [(76, zI c.age)], [(77, .str (zW c.age))], [(78, .list true 9 [.str (zW c.age)])], [(79, .list true 50 ((fldsOf ([109, 97, 120, 97, 103, 101] :: [zW c.age])).map encF))], [(80, .fn 29 [])], [(81, .eptr (encC c) 10)], [(82, zI c.ded)], [(83, .str (zW c.ded))], [(84, .list true 9 [.str (zW c.ded)])], [(85, .list true 50 ((fldsOf ([100, 101, 97, 100] :: [zW c.ded])).map encF))], [(86, .list true 46 [.list false 50 ((fldsOf ([112, 101, 114, 105, 111, 100] :: [zW c.per])).map encF), .list false 50 ((fldsOf ([114, 101, 116, 114, 105, 101, 115] :: [zW c.ret])).map encF), .list false 50 ((fldsOf ([109, 97, 120, 97, 103, 101] :: [zW c.age])).map encF), .list false 50 ((fldsOf ([100, 101, 97, 100] :: [zW c.ded])).map encF)])], [(87, .list true 46 (((linesC c).map fldsOf).map encL)), (61, .list false 46 (((hdL c ++ (thL c).take i).map fldsOf).map encL))], [(5, .list true 46 (((linesC c).map fldsOf).map encL)), (87, .list false 46 (((linesC c).map fldsOf).map encL))]] [[(5, none, .list true 46 (((hdL c ++ (thL c).take i).map fldsOf).map encL))], [(4, none, .fn 29 [])], [(1, none, .eptr (encC c) 0)], [(63, some 2, .eptr (encC c) 7)], [(62, some 1, .fn 29 []), (64, some 3, zI c.per)], [(65, some 4, .str (zW c.per))], [(66, some 5, .list true 9 [.str (zW c.per)])], [(4, none, .fn 29 [])], [(1, none, .eptr (encC c) 0)], [(69, some 8, .eptr (encC c) 8)], [(68, some 7, .fn 29 []), (70, some 9, zI c.ret)], [(71, some 10, .str (zW c.ret))], [(72, some 11, .list true 9 [.str (zW c.ret)])], [(4, none, .fn 29 [])], [(1, none, .eptr (encC c) 0)], [(75, some 14, .eptr (encC c) 9)], [(74, some 13, .fn 29 []), (76, some 15, zI c.age)], [(77, some 16, .str (zW c.age))], [(78, some 17, .list true 9 [.str (zW c.age)])], [(4, none, .fn 29 [])], [(1, none, .eptr (encC c) 0)], [(81, some 20, .eptr (encC c) 10)], [(80, some 19, .fn 29 []), (82, some 21, zI c.ded)], [(83, some 22, .str (zW c.ded))], [(84, some 23, .list true 9 [.str (zW c.ded)])], [(67, some 6, .list true 50 ((fldsOf ([112, 101, 114, 105, 111, 100] :: [zW c.per])).map encF)), (73, some 12, .list true 50 ((fldsOf ([114, 101, 116, 114, 105, 101, 115] :: [zW c.ret])).map encF)), (79, some 18, .list true 50 ((fldsOf ([109, 97, 120, 97, 103, 101] :: [zW c.age])).map encF)), (85, some 24, .list true 50 ((fldsOf ([100, 101, 97, 100] :: [zW c.ded])).map encF))], [(61, some 0, .list true 46 (((hdL c ++ (thL c).take i).map fldsOf).map encL)), (86, some 25, .list true 46 [.list false 50 ((fldsOf ([112, 101, 114, 105, 111, 100] :: [zW c.per])).map encF), .list false 50 ((fldsOf ([114, 101, 116, 114, 105, 101, 115] :: [zW c.ret])).map encF), .list false 50 ((fldsOf ([109, 97, 120, 97, 103, 101] :: [zW c.age])).map encF), .list false 50 ((fldsOf ([100, 101, 97, 100] :: [zW c.ded])).map encF)])], [(87, some 26, .list true 46 (((linesC c).map fldsOf).map encL))]] ?_ ?_)
        · skip
          refine hop1 (fun fr h => ?_) ?_
          · obtain ⟨_h0, -⟩ := h
            refine AOps.steal trivial rfl (by decide) (by decide) (.inl rfl) (v := .list true 46 (((hdL c ++ (thL c).take i).map fldsOf).map encL)) (by first | rfl | assumption) ?_
            exact zN rfl
          refine hop1 (fun fr h => ?_) ?_
          · obtain ⟨_h0, -⟩ := h
            refine zM (.fn 29 []) ?_
            exact zN rfl
          refine hop1 (fun fr h => ?_) ?_
          · obtain ⟨_h0, -⟩ := h
            refine zr (zfE Tryz.underlying27 sizeOf_3) ?_
            exact zN rfl
          refine hop1 (fun fr h => ?_) ?_
          · obtain ⟨_h0, -⟩ := h
            refine zr (zlE (zI c.per) Tryz.underlying3 sizeOf_3) ?_
            exact zN rfl
          refine hop1 (fun fr h => ?_) ?_
          · obtain ⟨_h0, _h1, -⟩ := h
            refine zcv [zI c.per] [] [zI c.per] Tryz.call29 (PrintZ c.per (by omega) M) ?_
            rintro _ _ ⟨rfl, rfl⟩
            exact zN rfl
          refine hop1 (fun fr h => ?_) ?_
          · obtain ⟨_h0, -⟩ := h
            refine zbS [] [.str (zW c.per)] Tryz.underlying38 Tryz.i9 ?_
            exact zN rfl
          refine hop1 (fun fr h => ?_) ?_
          · obtain ⟨_h0, -⟩ := h
            refine zc [.str [112, 101, 114, 105, 111, 100], .list false 9 ([zW c.per].map AV.str)] Tryz.call30 (fields_any [112, 101, 114, 105, 111, 100] [zW c.per] (by simp only [List.length_cons, List.length_nil]; omega) M) ?_
            rintro _ _ ⟨rfl, rfl⟩
            exact zN rfl
          refine hop1 (fun fr h => ?_) ?_
          · obtain ⟨_h0, -⟩ := h
            refine zM (.fn 29 []) ?_
            exact zN rfl
          refine hop1 (fun fr h => ?_) ?_
          · obtain ⟨_h0, -⟩ := h
            refine zr (zfE Tryz.underlying27 sizeOf_3) ?_
            exact zN rfl
          refine hop1 (fun fr h => ?_) ?_
          · obtain ⟨_h0, -⟩ := h
            refine zr (zlE (zI c.ret) Tryz.underlying3 sizeOf_3) ?_
            exact zN rfl
          refine hop1 (fun fr h => ?_) ?_
          · obtain ⟨_h0, _h1, -⟩ := h
            refine zcv [zI c.ret] [] [zI c.ret] Tryz.call29 (PrintZ c.ret (by omega) M) ?_
            rintro _ _ ⟨rfl, rfl⟩
            exact zN rfl
          refine hop1 (fun fr h => ?_) ?_
          · obtain ⟨_h0, -⟩ := h
            refine zbS [] [.str (zW c.ret)] Tryz.underlying38 Tryz.i9 ?_
            exact zN rfl
          refine hop1 (fun fr h => ?_) ?_
          · obtain ⟨_h0, -⟩ := h
            refine zc [.str [114, 101, 116, 114, 105, 101, 115], .list false 9 ([zW c.ret].map AV.str)] Tryz.call30 (fields_any [114, 101, 116, 114, 105, 101, 115] [zW c.ret] (by simp only [List.length_cons, List.length_nil]; omega) M) ?_
            rintro _ _ ⟨rfl, rfl⟩
            exact zN rfl
          refine hop1 (fun fr h => ?_) ?_
          · obtain ⟨_h0, -⟩ := h
            refine zM (.fn 29 []) ?_
            exact zN rfl
          refine hop1 (fun fr h => ?_) ?_
          · obtain ⟨_h0, -⟩ := h
            refine zr (zfE Tryz.underlying27 sizeOf_3) ?_
            exact zN rfl
          refine hop1 (fun fr h => ?_) ?_
          · obtain ⟨_h0, -⟩ := h
            refine zr (zlE (zI c.age) Tryz.underlying3 sizeOf_3) ?_
            exact zN rfl
          refine hop1 (fun fr h => ?_) ?_
          · obtain ⟨_h0, _h1, -⟩ := h
            refine zcv [zI c.age] [] [zI c.age] Tryz.call29 (PrintZ c.age (by omega) M) ?_
            rintro _ _ ⟨rfl, rfl⟩
            exact zN rfl
          refine hop1 (fun fr h => ?_) ?_
          · obtain ⟨_h0, -⟩ := h
            refine zbS [] [.str (zW c.age)] Tryz.underlying38 Tryz.i9 ?_
            exact zN rfl
          refine hop1 (fun fr h => ?_) ?_
          · obtain ⟨_h0, -⟩ := h
            refine zc [.str [109, 97, 120, 97, 103, 101], .list false 9 ([zW c.age].map AV.str)] Tryz.call30 (fields_any [109, 97, 120, 97, 103, 101] [zW c.age] (by simp only [List.length_cons, List.length_nil]; omega) M) ?_
            rintro _ _ ⟨rfl, rfl⟩
            exact zN rfl
          refine hop1 (fun fr h => ?_) ?_
          · obtain ⟨_h0, -⟩ := h
            refine zM (.fn 29 []) ?_
            exact zN rfl
          refine hop1 (fun fr h => ?_) ?_
          · obtain ⟨_h0, -⟩ := h
            refine zr (zfE Tryz.underlying27 sizeOf_3) ?_
            exact zN rfl
          refine hop1 (fun fr h => ?_) ?_
          · obtain ⟨_h0, -⟩ := h
            refine zr (zlE (zI c.ded) Tryz.underlying3 sizeOf_3) ?_
            exact zN rfl
          refine hop1 (fun fr h => ?_) ?_
          · obtain ⟨_h0, _h1, -⟩ := h
            refine zcv [zI c.ded] [] [zI c.ded] Tryz.call29 (PrintZ c.ded (by omega) M) ?_
            rintro _ _ ⟨rfl, rfl⟩
            exact zN rfl
          refine hop1 (fun fr h => ?_) ?_
          · obtain ⟨_h0, -⟩ := h
            refine zbS [] [.str (zW c.ded)] Tryz.underlying38 Tryz.i9 ?_
            exact zN rfl
          refine hop1 (fun fr h => ?_) ?_
          · obtain ⟨_h0, -⟩ := h
            refine zc [.str [100, 101, 97, 100], .list false 9 ([zW c.ded].map AV.str)] Tryz.call30 (fields_any [100, 101, 97, 100] [zW c.ded] (by simp only [List.length_cons, List.length_nil]; omega) M) ?_
            rintro _ _ ⟨rfl, rfl⟩
            exact zN rfl
          refine hop1 (fun fr h => ?_) ?_
          · obtain ⟨_h0, _h1, _h2, _h3, -⟩ := h
            refine zbS [50, 50, 50, 50] [.list false 50 ((fldsOf ([112, 101, 114, 105, 111, 100] :: [zW c.per])).map encF), .list false 50 ((fldsOf ([114, 101, 116, 114, 105, 101, 115] :: [zW c.ret])).map encF), .list false 50 ((fldsOf ([109, 97, 120, 97, 103, 101] :: [zW c.age])).map encF), .list false 50 ((fldsOf ([100, 101, 97, 100] :: [zW c.ded])).map encF)] Tryz.underlying42 Tryz.i46 ?_
            exact zN rfl
          refine hop1 (fun fr h => ?_) ?_
          · obtain ⟨_h0, _h1, -⟩ := h
            refine zap (m1 := (i + 2)) (m2 := 4) 24 (((hdL c ++ (thL c).take i).map fldsOf).map encL) [.list false 50 ((fldsOf ([112, 101, 114, 105, 111, 100] :: [zW c.per])).map encF), .list false 50 ((fldsOf ([114, 101, 116, 114, 105, 101, 115] :: [zW c.ret])).map encF), .list false 50 ((fldsOf ([109, 97, 120, 97, 103, 101] :: [zW c.age])).map encF), .list false 50 ((fldsOf ([100, 101, 97, 100] :: [zW c.ded])).map encF)] (((linesC c).map fldsOf).map encL) Tryz.underlying42 Tryz.underlying42 Tryz.i46 (hl_len (by omega)) rfl (lc_last (by omega)) ?_
            exact zN rfl
          refine hop1 (fun fr h => ?_) ?_
          · obtain ⟨_h0, -⟩ := h
            refine AOps.steal trivial rfl (by decide) (by decide) (.inr rfl) (v := .list true 46 (((linesC c).map fldsOf).map encL)) (by first | rfl | assumption) ?_
            exact zN rfl
          exact hop0
        refine zg ?_
        refine zM (.list false 46 (((linesC c).map fldsOf).map encL)) ?_
        refine zc [.list false 46 (((linesC c).map fldsOf).map encL)] Tryz.call32 (joinZ hr hca M) ?_
        rintro _ _ ⟨rfl, rfl⟩
        refine zM (.str (textC c)) ?_
        refine zM (zI 0) ?_
        refine zN ?_
        refine AWp.ret ?_
        exact ⟨.inl rfl, _, ResOf.two 2 3 (.str (textC c)) (zI 0) rfl rfl (.inl rfl) (.inl rfl) (by decide), ⟨prt_ok hR, rfl⟩⟩

set_option maxRecDepth 20000 in
theorem rCPrint_any (c : Cfg) (hr : PrC c) (hca : InR c) (M : Nat → Option (List AV)) : ACall Tryz.prog 18 [encC c] M (fun r M' => r = .str (textC c) ∧ M = M') := by
  have ⟨l0, l1, l2, l3, l4, l5, l6, l7, l8, l9⟩ := zw_lens hca
  have ⟨q0, q1, q2, q3, q4, q5, q6, q7, q8, q9, _⟩ := hca
  have ⟨p0, p1, p2, p3, p4, p5, p6, p7, p8, p9, hr9, _⟩ := hr
  have hhd : (hdT c).length ≤ 200 := hd_len hca
  refine ACall.of Tryz.func18 rfl (n := 74) rfl rfl rfl ?_
  refine zg ?_
  refine AOps.box trivial rfl (by decide) rfl (noL rfl) rfl (v := encC c) (.inl ⟨rfl, rfl⟩) rfl rfl (all_flat rfl) ?_
  refine AOps.freezeK 1 [0, 1] [] (s' := ⟨[(0, encC c), (1, .eptr (encC c) 0)], [], M⟩) rfl rfl rfl ?_
  refine zM (.str []) ?_
  refine zN ?_
  refine zg ?_
  refine zM (.str [99, 97, 112, 97, 99, 105, 116, 121]) ?_
  refine zN ?_
  refine AWp.seq ?_
  refine zg ?_
  refine zM (zI 0) ?_
  refine zN ?_
  refine AWp.block ?_
  refine AWp.unroll 4 ?_
  refine AWp.round ?_
  refine AWp.seq ?_
  refine zg ?_
  refine zM (zI 0) ?_
  refine zr (zi true) ?_
  refine zN ?_
  refine AWp.cond (b := true) rfl (fun hx => ?_) (fun hx => by cases hx)
  refine AWp.skip ?_
  refine AWp.seq ?_
  refine AWp.block ?_
  refine AWp.region ?_
  refine zM (.str [99, 97, 112, 97, 99, 105, 116, 121]) ?_
  refine zr (Reader.cat rfl rfl rfl (by first | omega | (simp only [List.length_cons, List.length_nil]; omega) | (simp; omega)) (c := [99, 97, 112, 97, 99, 105, 116, 121] ++ [32]) rfl) ?_
  refine zM (zI 0) ?_
  refine zr (zfE Tryz.underlying27 sizeOf_24) ?_
  refine zr (ziE 0 Tryz.underlying24 sizeOf_3) ?_
  refine zr (zlE (zI c.c0) Tryz.underlying3 sizeOf_3) ?_
  refine zc [zI c.c0] Tryz.call39 (rPrintZ c.c0 (by omega) (by omega) M) ?_
  rintro _ _ ⟨rfl, rfl⟩
  refine zr (Reader.cat rfl rfl rfl (by first | omega | (simp only [List.length_append, List.length_cons, List.length_nil]; omega) | (simp; omega)) (c := ([99, 97, 112, 97, 99, 105, 116, 121] ++ [32]) ++ (zW c.c0)) rfl) ?_
  refine zM (.str (([99, 97, 112, 97, 99, 105, 116, 121] ++ [32]) ++ (zW c.c0))) ?_
  refine zN ?_
  refine AWp.region ?_
  refine zM (zI 0) ?_
  refine zr (zd (0 + 1) 1) ?_
  refine zM (zI 1) ?_
  refine zN ?_
  refine AWp.round ?_
  refine AWp.seq ?_
  refine zg ?_
  refine zM (zI 1) ?_
  refine zr (zi true) ?_
  refine zN ?_
  refine AWp.cond (b := true) rfl (fun hx => ?_) (fun hx => by cases hx)
  refine AWp.skip ?_
  refine AWp.seq ?_
  refine AWp.block ?_
  refine AWp.region ?_
  refine zM (.str (([99, 97, 112, 97, 99, 105, 116, 121] ++ [32]) ++ (zW c.c0))) ?_
  refine zr (Reader.cat rfl rfl rfl (by first | omega | (simp only [List.length_append, List.length_cons, List.length_nil]; omega) | (simp; omega)) (c := (([99, 97, 112, 97, 99, 105, 116, 121] ++ [32]) ++ (zW c.c0)) ++ [32]) rfl) ?_
  refine zM (zI 1) ?_
  refine zr (zfE Tryz.underlying27 sizeOf_24) ?_
  refine zr (ziE 1 Tryz.underlying24 sizeOf_3) ?_
  refine zr (zlE (zI c.c1) Tryz.underlying3 sizeOf_3) ?_
  refine zc [zI c.c1] Tryz.call39 (rPrintZ c.c1 (by omega) (by omega) M) ?_
  rintro _ _ ⟨rfl, rfl⟩
  refine zr (Reader.cat rfl rfl rfl (by first | omega | (simp only [List.length_append, List.length_cons, List.length_nil]; omega) | (simp; omega)) (c := ((([99, 97, 112, 97, 99, 105, 116, 121] ++ [32]) ++ (zW c.c0)) ++ [32]) ++ (zW c.c1)) rfl) ?_
  refine zM (.str (((([99, 97, 112, 97, 99, 105, 116, 121] ++ [32]) ++ (zW c.c0)) ++ [32]) ++ (zW c.c1))) ?_
  refine zN ?_
  refine AWp.region ?_
  refine zM (zI 1) ?_
  refine zr (zd (1 + 1) 2) ?_
  refine zM (zI 2) ?_
  refine zN ?_
  refine AWp.round ?_
  refine AWp.seq ?_
  refine zg ?_
  refine zM (zI 2) ?_
  refine zr (zi true) ?_
  refine zN ?_
  refine AWp.cond (b := true) rfl (fun hx => ?_) (fun hx => by cases hx)
  refine AWp.skip ?_
  refine AWp.seq ?_
  refine AWp.block ?_
  refine AWp.region ?_
  refine zM (.str (((([99, 97, 112, 97, 99, 105, 116, 121] ++ [32]) ++ (zW c.c0)) ++ [32]) ++ (zW c.c1))) ?_
  refine zr (Reader.cat rfl rfl rfl (by first | omega | (simp only [List.length_append, List.length_cons, List.length_nil]; omega) | (simp; omega)) (c := (((([99, 97, 112, 97, 99, 105, 116, 121] ++ [32]) ++ (zW c.c0)) ++ [32]) ++ (zW c.c1)) ++ [32]) rfl) ?_
  refine zM (zI 2) ?_
  refine zr (zfE Tryz.underlying27 sizeOf_24) ?_
  refine zr (ziE 2 Tryz.underlying24 sizeOf_3) ?_
  refine zr (zlE (zI c.c2) Tryz.underlying3 sizeOf_3) ?_
  refine zc [zI c.c2] Tryz.call39 (rPrintZ c.c2 (by omega) (by omega) M) ?_
  rintro _ _ ⟨rfl, rfl⟩
  refine zr (Reader.cat rfl rfl rfl (by first | omega | (simp only [List.length_append, List.length_cons, List.length_nil]; omega) | (simp; omega)) (c := ((((([99, 97, 112, 97, 99, 105, 116, 121] ++ [32]) ++ (zW c.c0)) ++ [32]) ++ (zW c.c1)) ++ [32]) ++ (zW c.c2)) rfl) ?_
  refine zM (.str (((((([99, 97, 112, 97, 99, 105, 116, 121] ++ [32]) ++ (zW c.c0)) ++ [32]) ++ (zW c.c1)) ++ [32]) ++ (zW c.c2))) ?_
  refine zN ?_
  refine AWp.region ?_
  refine zM (zI 2) ?_
  refine zr (zd (2 + 1) 3) ?_
  refine zM (zI 3) ?_
  refine zN ?_
  refine AWp.round ?_
  refine AWp.seq ?_
  refine zg ?_
  refine zM (zI 3) ?_
  refine zr (zi false) ?_
  refine zN ?_
  refine AWp.cond (b := false) rfl (fun hx => by cases hx) (fun hx => ?_)
  refine AWp.exit ?_
  refine zg ?_
  refine zM (.str (((((([99, 97, 112, 97, 99, 105, 116, 121] ++ [32]) ++ (zW c.c0)) ++ [32]) ++ (zW c.c1)) ++ [32]) ++ (zW c.c2))) ?_
  refine zr (Reader.cat rfl rfl rfl (by first | omega | (simp only [List.length_append, List.length_cons, List.length_nil]; omega) | (simp; omega)) (c := (((((([99, 97, 112, 97, 99, 105, 116, 121] ++ [32]) ++ (zW c.c0)) ++ [32]) ++ (zW c.c1)) ++ [32]) ++ (zW c.c2)) ++ [10, 97, 108, 108, 111, 99, 97, 116, 97, 98, 108, 101]) rfl) ?_
  refine zM (.str ((((((([99, 97, 112, 97, 99, 105, 116, 121] ++ [32]) ++ (zW c.c0)) ++ [32]) ++ (zW c.c1)) ++ [32]) ++ (zW c.c2)) ++ [10, 97, 108, 108, 111, 99, 97, 116, 97, 98, 108, 101])) ?_
  refine zN ?_
  refine AWp.seq ?_
  refine zg ?_
  refine zM (zI 0) ?_
  refine zN ?_
  refine AWp.block ?_
  refine AWp.unroll 4 ?_
  refine AWp.round ?_
  refine AWp.seq ?_
  refine zg ?_
  refine zM (zI 0) ?_
  refine zr (zi true) ?_
  refine zN ?_
  refine AWp.cond (b := true) rfl (fun hx => ?_) (fun hx => by cases hx)
  refine AWp.skip ?_
  refine AWp.seq ?_
  refine AWp.block ?_
  refine AWp.region ?_
  refine zM (.str ((((((([99, 97, 112, 97, 99, 105, 116, 121] ++ [32]) ++ (zW c.c0)) ++ [32]) ++ (zW c.c1)) ++ [32]) ++ (zW c.c2)) ++ [10, 97, 108, 108, 111, 99, 97, 116, 97, 98, 108, 101])) ?_
  refine zr (Reader.cat rfl rfl rfl (by first | omega | (simp only [List.length_append, List.length_cons, List.length_nil]; omega) | (simp; omega)) (c := ((((((([99, 97, 112, 97, 99, 105, 116, 121] ++ [32]) ++ (zW c.c0)) ++ [32]) ++ (zW c.c1)) ++ [32]) ++ (zW c.c2)) ++ [10, 97, 108, 108, 111, 99, 97, 116, 97, 98, 108, 101]) ++ [32]) rfl) ?_
  refine zM (zI 0) ?_
  refine zr (zfE Tryz.underlying27 sizeOf_24) ?_
  refine zr (ziE 0 Tryz.underlying24 sizeOf_3) ?_
  refine zr (zlE (zI c.a0) Tryz.underlying3 sizeOf_3) ?_
  refine zc [zI c.a0] Tryz.call39 (rPrintZ c.a0 (by omega) (by omega) M) ?_
  rintro _ _ ⟨rfl, rfl⟩
  refine zr (Reader.cat rfl rfl rfl (by first | omega | (simp only [List.length_append, List.length_cons, List.length_nil]; omega) | (simp; omega)) (c := (((((((([99, 97, 112, 97, 99, 105, 116, 121] ++ [32]) ++ (zW c.c0)) ++ [32]) ++ (zW c.c1)) ++ [32]) ++ (zW c.c2)) ++ [10, 97, 108, 108, 111, 99, 97, 116, 97, 98, 108, 101]) ++ [32]) ++ (zW c.a0)) rfl) ?_
  refine zM (.str ((((((((([99, 97, 112, 97, 99, 105, 116, 121] ++ [32]) ++ (zW c.c0)) ++ [32]) ++ (zW c.c1)) ++ [32]) ++ (zW c.c2)) ++ [10, 97, 108, 108, 111, 99, 97, 116, 97, 98, 108, 101]) ++ [32]) ++ (zW c.a0))) ?_
  refine zN ?_
  refine AWp.region ?_
  refine zM (zI 0) ?_
  refine zr (zd (0 + 1) 1) ?_
  refine zM (zI 1) ?_
  refine zN ?_
  refine AWp.round ?_
  refine AWp.seq ?_
  refine zg ?_
  refine zM (zI 1) ?_
  refine zr (zi true) ?_
  refine zN ?_
  refine AWp.cond (b := true) rfl (fun hx => ?_) (fun hx => by cases hx)
  refine AWp.skip ?_
  refine AWp.seq ?_
  refine AWp.block ?_
  refine AWp.region ?_
  refine zM (.str ((((((((([99, 97, 112, 97, 99, 105, 116, 121] ++ [32]) ++ (zW c.c0)) ++ [32]) ++ (zW c.c1)) ++ [32]) ++ (zW c.c2)) ++ [10, 97, 108, 108, 111, 99, 97, 116, 97, 98, 108, 101]) ++ [32]) ++ (zW c.a0))) ?_
  refine zr (Reader.cat rfl rfl rfl (by first | omega | (simp only [List.length_append, List.length_cons, List.length_nil]; omega) | (simp; omega)) (c := ((((((((([99, 97, 112, 97, 99, 105, 116, 121] ++ [32]) ++ (zW c.c0)) ++ [32]) ++ (zW c.c1)) ++ [32]) ++ (zW c.c2)) ++ [10, 97, 108, 108, 111, 99, 97, 116, 97, 98, 108, 101]) ++ [32]) ++ (zW c.a0)) ++ [32]) rfl) ?_
  refine zM (zI 1) ?_
  refine zr (zfE Tryz.underlying27 sizeOf_24) ?_
  refine zr (ziE 1 Tryz.underlying24 sizeOf_3) ?_
  refine zr (zlE (zI c.a1) Tryz.underlying3 sizeOf_3) ?_
  refine zc [zI c.a1] Tryz.call39 (rPrintZ c.a1 (by omega) (by omega) M) ?_
  rintro _ _ ⟨rfl, rfl⟩
  refine zr (Reader.cat rfl rfl rfl (by first | omega | (simp only [List.length_append, List.length_cons, List.length_nil]; omega) | (simp; omega)) (c := (((((((((([99, 97, 112, 97, 99, 105, 116, 121] ++ [32]) ++ (zW c.c0)) ++ [32]) ++ (zW c.c1)) ++ [32]) ++ (zW c.c2)) ++ [10, 97, 108, 108, 111, 99, 97, 116, 97, 98, 108, 101]) ++ [32]) ++ (zW c.a0)) ++ [32]) ++ (zW c.a1)) rfl) ?_
  refine zM (.str ((((((((((([99, 97, 112, 97, 99, 105, 116, 121] ++ [32]) ++ (zW c.c0)) ++ [32]) ++ (zW c.c1)) ++ [32]) ++ (zW c.c2)) ++ [10, 97, 108, 108, 111, 99, 97, 116, 97, 98, 108, 101]) ++ [32]) ++ (zW c.a0)) ++ [32]) ++ (zW c.a1))) ?_
  refine zN ?_
  refine AWp.region ?_
  refine zM (zI 1) ?_
  refine zr (zd (1 + 1) 2) ?_
  refine zM (zI 2) ?_
  refine zN ?_
  refine AWp.round ?_
  refine AWp.seq ?_
  refine zg ?_
  refine zM (zI 2) ?_
  refine zr (zi true) ?_
  refine zN ?_
  refine AWp.cond (b := true) rfl (fun hx => ?_) (fun hx => by cases hx)
  refine AWp.skip ?_
  refine AWp.seq ?_
  refine AWp.block ?_
  refine AWp.region ?_
  refine zM (.str ((((((((((([99, 97, 112, 97, 99, 105, 116, 121] ++ [32]) ++ (zW c.c0)) ++ [32]) ++ (zW c.c1)) ++ [32]) ++ (zW c.c2)) ++ [10, 97, 108, 108, 111, 99, 97, 116, 97, 98, 108, 101]) ++ [32]) ++ (zW c.a0)) ++ [32]) ++ (zW c.a1))) ?_
  refine zr (Reader.cat rfl rfl rfl (by first | omega | (simp only [List.length_append, List.length_cons, List.length_nil]; omega) | (simp; omega)) (c := ((((((((((([99, 97, 112, 97, 99, 105, 116, 121] ++ [32]) ++ (zW c.c0)) ++ [32]) ++ (zW c.c1)) ++ [32]) ++ (zW c.c2)) ++ [10, 97, 108, 108, 111, 99, 97, 116, 97, 98, 108, 101]) ++ [32]) ++ (zW c.a0)) ++ [32]) ++ (zW c.a1)) ++ [32]) rfl) ?_
  refine zM (zI 2) ?_
  refine zr (zfE Tryz.underlying27 sizeOf_24) ?_
  refine zr (ziE 2 Tryz.underlying24 sizeOf_3) ?_
  refine zr (zlE (zI c.a2) Tryz.underlying3 sizeOf_3) ?_
  refine zc [zI c.a2] Tryz.call39 (rPrintZ c.a2 (by omega) (by omega) M) ?_
  rintro _ _ ⟨rfl, rfl⟩
  refine zr (Reader.cat rfl rfl rfl (by first | omega | (simp only [List.length_append, List.length_cons, List.length_nil]; omega) | (simp; omega)) (c := (((((((((((([99, 97, 112, 97, 99, 105, 116, 121] ++ [32]) ++ (zW c.c0)) ++ [32]) ++ (zW c.c1)) ++ [32]) ++ (zW c.c2)) ++ [10, 97, 108, 108, 111, 99, 97, 116, 97, 98, 108, 101]) ++ [32]) ++ (zW c.a0)) ++ [32]) ++ (zW c.a1)) ++ [32]) ++ (zW c.a2)) rfl) ?_
  refine zM (.str ((((((((((((([99, 97, 112, 97, 99, 105, 116, 121] ++ [32]) ++ (zW c.c0)) ++ [32]) ++ (zW c.c1)) ++ [32]) ++ (zW c.c2)) ++ [10, 97, 108, 108, 111, 99, 97, 116, 97, 98, 108, 101]) ++ [32]) ++ (zW c.a0)) ++ [32]) ++ (zW c.a1)) ++ [32]) ++ (zW c.a2))) ?_
  refine zN ?_
  refine AWp.region ?_
  refine zM (zI 2) ?_
  refine zr (zd (2 + 1) 3) ?_
  refine zM (zI 3) ?_
  refine zN ?_
  refine AWp.round ?_
  refine AWp.seq ?_
  refine zg ?_
  refine zM (zI 3) ?_
  refine zr (zi false) ?_
  refine zN ?_
  refine AWp.cond (b := false) rfl (fun hx => by cases hx) (fun hx => ?_)
  refine AWp.exit ?_
  refine zg ?_
  refine zM (.str ((((((((((((([99, 97, 112, 97, 99, 105, 116, 121] ++ [32]) ++ (zW c.c0)) ++ [32]) ++ (zW c.c1)) ++ [32]) ++ (zW c.c2)) ++ [10, 97, 108, 108, 111, 99, 97, 116, 97, 98, 108, 101]) ++ [32]) ++ (zW c.a0)) ++ [32]) ++ (zW c.a1)) ++ [32]) ++ (zW c.a2))) ?_
  refine zr (Reader.cat rfl rfl rfl (by first | omega | (simp only [List.length_append, List.length_cons, List.length_nil]; omega) | (simp; omega)) (c := ((((((((((((([99, 97, 112, 97, 99, 105, 116, 121] ++ [32]) ++ (zW c.c0)) ++ [32]) ++ (zW c.c1)) ++ [32]) ++ (zW c.c2)) ++ [10, 97, 108, 108, 111, 99, 97, 116, 97, 98, 108, 101]) ++ [32]) ++ (zW c.a0)) ++ [32]) ++ (zW c.a1)) ++ [32]) ++ (zW c.a2)) ++ [10]) rfl) ?_
  refine zM (.str (((((((((((((([99, 97, 112, 97, 99, 105, 116, 121] ++ [32]) ++ (zW c.c0)) ++ [32]) ++ (zW c.c1)) ++ [32]) ++ (zW c.c2)) ++ [10, 97, 108, 108, 111, 99, 97, 116, 97, 98, 108, 101]) ++ [32]) ++ (zW c.a0)) ++ [32]) ++ (zW c.a1)) ++ [32]) ++ (zW c.a2)) ++ [10])) ?_
  refine zN ?_
  refine AWp.seq ?_
  refine zg ?_
  refine zM (zI 0) ?_
  refine zN ?_
  refine AWp.block ?_
  refine AWp.loopE [1, 3, 6] [] (fun m s => ∃ (i : Nat), m = c.thr.length - i ∧ s = ⟨[(1, .eptr (encC c) 0), (3, .str (hdT c ++ jT ((thL c).take i))), (6, zI (i : Int))], [], M⟩ ∧ (i ≤ c.thr.length)) ?_ ?_
  · exact ⟨_, 0, rfl, (by rw [show hdT c ++ jT ((thL c).take 0) = hdT c from List.append_nil _]; rfl), Nat.zero_le _⟩
  · rintro _ _ ⟨i, rfl, rfl, hi⟩
    have hjl := jt_len hr hca i
    refine AWp.seq ?_
    refine zg ?_
    refine zM (zI (i : Int)) ?_
    refine zr (zfE Tryz.underlying27 sizeOf_25) ?_
    refine zr (zlE (.list false 40 (c.thr.map encT)) Tryz.underlying25 sizeOf_25) ?_
    refine zr (zL (c.thr.map encT) c.thr.length Tryz.underlying25 (by simp)) ?_
    refine zr (zi (decide ((i : Int) < (c.thr.length : Int)))) ?_
    refine zN ?_
    refine zC (b := decide ((i : Int) < (c.thr.length : Int))) rfl (fun h1 => ?_) (fun h1 => ?_)
    · skip
      have h1' : i < c.thr.length := (by have hh := of_decide_eq_true h1; omega)
      clear h1
      refine AWp.skip ?_
      refine AWp.seq ?_
      refine AWp.block ?_
      refine AWp.region ?_
      refine zM (.str (hdT c ++ jT ((thL c).take i))) ?_
      refine zr (Reader.cat rfl rfl rfl (by first | omega | (simp only [List.length_append, List.length_cons, List.length_nil]; omega) | (simp; omega)) (c := (hdT c ++ jT ((thL c).take i)) ++ [116, 104, 114, 101, 115, 104, 111, 108, 100, 32]) rfl) ?_
      refine zr (zfE Tryz.underlying27 sizeOf_25) ?_
      refine zr (zlE (.list false 40 (c.thr.map encT)) Tryz.underlying25 sizeOf_25) ?_
      refine zM (zI (i : Int)) ?_
      refine zr (zel i (encT (c.thr.getD i t0)) Tryz.underlying25 sizeOf_40 (thr_at (by omega))) ?_
      refine zr (zlE (encT (c.thr.getD i t0)) Tryz.underlying40 sizeOf_40) ?_
      refine zc [encT (c.thr.getD i t0)] Tryz.call40 (rTPrint_any (c.thr.getD i t0) (thr_r hr (by omega)) (hca.thr _ (thr_mem2 (by omega))) M) ?_
      rintro _ _ ⟨rfl, rfl⟩
      refine zr (Reader.cat rfl rfl rfl (by have hpt := printT_le (thr_r hr (i := i) (by omega)) (hca.thr _ (thr_mem2 (by omega))); simp only [List.length_append, List.length_cons, List.length_nil]; omega) (c := ((hdT c ++ jT ((thL c).take i)) ++ [116, 104, 114, 101, 115, 104, 111, 108, 100, 32]) ++ (printT (c.thr.getD i t0))) rfl) ?_
      refine zr (Reader.cat rfl rfl rfl (by have hpt := printT_le (thr_r hr (i := i) (by omega)) (hca.thr _ (thr_mem2 (by omega))); first | omega | (simp only [List.length_append, List.length_cons, List.length_nil]; omega)) (c := hdT c ++ jT ((thL c).take (i + 1))) (cat_thr (by omega))) ?_
      refine zM (.str (hdT c ++ jT ((thL c).take (i + 1)))) ?_
      refine zN ?_
      refine AWp.region ?_
      refine zM (zI (i : Int)) ?_
      refine zr (zw ((i : Int) + 1) ((i + 1 : Nat) : Int)) ?_
      refine zM (zI ((i + 1 : Nat) : Int)) ?_
      refine zN ?_
      exact ⟨_, by omega, i + 1, rfl, rfl, by omega⟩
    · skip
      have h1' : ¬ (i < c.thr.length) := (by have hh := of_decide_eq_false h1; omega)
      clear h1
      refine AWp.exit ?_
      refine AWp.seq (AWp.anyV [1, 3, 6, 39, 2] [] (⟨[(1, .eptr (encC c) 0), (3, .str (hdT c ++ jT ((thL c).take i))), (6, zI (i : Int)), (39, zB (decide ((i : Int) < (c.thr.length : Int)))), (2, .str ((((((((((hdT c ++ jT ((thL c).take i)) ++ [112, 101, 114, 105, 111, 100, 32]) ++ (zW c.per)) ++ [10, 114, 101, 116, 114, 105, 101, 115, 32]) ++ (zW c.ret)) ++ [10, 109, 97, 120, 97, 103, 101, 32]) ++ (zW c.age)) ++ [10, 100, 101, 97, 100, 32]) ++ (zW c.ded)) ++ [10]))], [], M⟩) [[(52, .str (hdT c ++ jT ((thL c).take i)))], [(53, .str ((hdT c ++ jT ((thL c).take i)) ++ [112, 101, 114, 105, 111, 100, 32]))], [(54, .eptr (encC c) 7)], [(55, zI c.per)], [(56, .str (zW c.per))], [(57, .str (((hdT c ++ jT ((thL c).take i)) ++ [112, 101, 114, 105, 111, 100, 32]) ++ (zW c.per)))], [(58, .str ((((hdT c ++ jT ((thL c).take i)) ++ [112, 101, 114, 105, 111, 100, 32]) ++ (zW c.per)) ++ [10, 114, 101, 116, 114, 105, 101, 115, 32]))], [(59, .eptr (encC c) 8)], [(60, zI c.ret)], [(61, .str (zW c.ret))], [(62, .str (((((hdT c ++ jT ((thL c).take i)) ++ [112, 101, 114, 105, 111, 100, 32]) ++ (zW c.per)) ++ [10, 114, 101, 116, 114, 105, 101, 115, 32]) ++ (zW c.ret)))], [(63, .str ((((((hdT c ++ jT ((thL c).take i)) ++ [112, 101, 114, 105, 111, 100, 32]) ++ (zW c.per)) ++ [10, 114, 101, 116, 114, 105, 101, 115, 32]) ++ (zW c.ret)) ++ [10, 109, 97, 120, 97, 103, 101, 32]))], [(64, .eptr (encC c) 9)], [(65, zI c.age)], [(66, .str (zW c.age))], [(67, .str (((((((hdT c ++ jT ((thL c).take i)) ++ [112, 101, 114, 105, 111, 100, 32]) ++ (zW c.per)) ++ [10, 114, 101, 116, 114, 105, 101, 115, 32]) ++ (zW c.ret)) ++ [10, 109, 97, 120, 97, 103, 101, 32]) ++ (zW c.age)))], [(68, .str ((((((((hdT c ++ jT ((thL c).take i)) ++ [112, 101, 114, 105, 111, 100, 32]) ++ (zW c.per)) ++ [10, 114, 101, 116, 114, 105, 101, 115, 32]) ++ (zW c.ret)) ++ [10, 109, 97, 120, 97, 103, 101, 32]) ++ (zW c.age)) ++ [10, 100, 101, 97, 100, 32]))], [(69, .eptr (encC c) 10)], [(70, zI c.ded)], [(71, .str (zW c.ded))], [(72, .str (((((((((hdT c ++ jT ((thL c).take i)) ++ [112, 101, 114, 105, 111, 100, 32]) ++ (zW c.per)) ++ [10, 114, 101, 116, 114, 105, 101, 115, 32]) ++ (zW c.ret)) ++ [10, 109, 97, 120, 97, 103, 101, 32]) ++ (zW c.age)) ++ [10, 100, 101, 97, 100, 32]) ++ (zW c.ded)))], [(73, .str ((((((((((hdT c ++ jT ((thL c).take i)) ++ [112, 101, 114, 105, 111, 100, 32]) ++ (zW c.per)) ++ [10, 114, 101, 116, 114, 105, 101, 115, 32]) ++ (zW c.ret)) ++ [10, 109, 97, 120, 97, 103, 101, 32]) ++ (zW c.age)) ++ [10, 100, 101, 97, 100, 32]) ++ (zW c.ded)) ++ [10]))], [(2, .str ((((((((((hdT c ++ jT ((thL c).take i)) ++ [112, 101, 114, 105, 111, 100, 32]) ++ (zW c.per)) ++ [10, 114, 101, 116, 114, 105, 101, 115, 32]) ++ (zW c.ret)) ++ [10, 109, 97, 120, 97, 103, 101, 32]) ++ (zW c.age)) ++ [10, 100, 101, 97, 100, 32]) ++ (zW c.ded)) ++ [10]))]] [[(3, none, .str (hdT c ++ jT ((thL c).take i)))], [(52, some 0, .str (hdT c ++ jT ((thL c).take i)))], [(1, none, .eptr (encC c) 0)], [(54, some 2, .eptr (encC c) 7)], [(55, some 3, zI c.per)], [(53, some 1, .str ((hdT c ++ jT ((thL c).take i)) ++ [112, 101, 114, 105, 111, 100, 32])), (56, some 4, .str (zW c.per))], [(57, some 5, .str (((hdT c ++ jT ((thL c).take i)) ++ [112, 101, 114, 105, 111, 100, 32]) ++ (zW c.per)))], [(1, none, .eptr (encC c) 0)], [(59, some 7, .eptr (encC c) 8)], [(60, some 8, zI c.ret)], [(58, some 6, .str ((((hdT c ++ jT ((thL c).take i)) ++ [112, 101, 114, 105, 111, 100, 32]) ++ (zW c.per)) ++ [10, 114, 101, 116, 114, 105, 101, 115, 32])), (61, some 9, .str (zW c.ret))], [(62, some 10, .str (((((hdT c ++ jT ((thL c).take i)) ++ [112, 101, 114, 105, 111, 100, 32]) ++ (zW c.per)) ++ [10, 114, 101, 116, 114, 105, 101, 115, 32]) ++ (zW c.ret)))], [(1, none, .eptr (encC c) 0)], [(64, some 12, .eptr (encC c) 9)], [(65, some 13, zI c.age)], [(63, some 11, .str ((((((hdT c ++ jT ((thL c).take i)) ++ [112, 101, 114, 105, 111, 100, 32]) ++ (zW c.per)) ++ [10, 114, 101, 116, 114, 105, 101, 115, 32]) ++ (zW c.ret)) ++ [10, 109, 97, 120, 97, 103, 101, 32])), (66, some 14, .str (zW c.age))], [(67, some 15, .str (((((((hdT c ++ jT ((thL c).take i)) ++ [112, 101, 114, 105, 111, 100, 32]) ++ (zW c.per)) ++ [10, 114, 101, 116, 114, 105, 101, 115, 32]) ++ (zW c.ret)) ++ [10, 109, 97, 120, 97, 103, 101, 32]) ++ (zW c.age)))], [(1, none, .eptr (encC c) 0)], [(69, some 17, .eptr (encC c) 10)], [(70, some 18, zI c.ded)], [(68, some 16, .str ((((((((hdT c ++ jT ((thL c).take i)) ++ [112, 101, 114, 105, 111, 100, 32]) ++ (zW c.per)) ++ [10, 114, 101, 116, 114, 105, 101, 115, 32]) ++ (zW c.ret)) ++ [10, 109, 97, 120, 97, 103, 101, 32]) ++ (zW c.age)) ++ [10, 100, 101, 97, 100, 32])), (71, some 19, .str (zW c.ded))], [(72, some 20, .str (((((((((hdT c ++ jT ((thL c).take i)) ++ [112, 101, 114, 105, 111, 100, 32]) ++ (zW c.per)) ++ [10, 114, 101, 116, 114, 105, 101, 115, 32]) ++ (zW c.ret)) ++ [10, 109, 97, 120, 97, 103, 101, 32]) ++ (zW c.age)) ++ [10, 100, 101, 97, 100, 32]) ++ (zW c.ded)))], [(73, some 21, .str ((((((((((hdT c ++ jT ((thL c).take i)) ++ [112, 101, 114, 105, 111, 100, 32]) ++ (zW c.per)) ++ [10, 114, 101, 116, 114, 105, 101, 115, 32]) ++ (zW c.ret)) ++ [10, 109, 97, 120, 97, 103, 101, 32]) ++ (zW c.age)) ++ [10, 100, 101, 97, 100, 32]) ++ (zW c.ded)) ++ [10]))]] ?_ ?_)
      · skip
        refine hop1 (fun fr h => ?_) ?_
        · obtain ⟨_h0, -⟩ := h
          refine zM (.str (hdT c ++ jT ((thL c).take i))) ?_
          exact zN rfl
        refine hop1 (fun fr h => ?_) ?_
        · obtain ⟨_h0, -⟩ := h
          refine zr (Reader.cat rfl (by first | rfl | assumption) (by first | rfl | assumption) (by first | omega | (simp only [List.length_append, List.length_cons, List.length_nil]; omega) | (simp; omega)) (c := (hdT c ++ jT ((thL c).take i)) ++ [112, 101, 114, 105, 111, 100, 32]) rfl) ?_
          exact zN rfl
        refine hop1 (fun fr h => ?_) ?_
        · obtain ⟨_h0, -⟩ := h
          refine zr (zfE Tryz.underlying27 sizeOf_3) ?_
          exact zN rfl
        refine hop1 (fun fr h => ?_) ?_
        · obtain ⟨_h0, -⟩ := h
          refine zr (zlE (zI c.per) Tryz.underlying3 sizeOf_3) ?_
          exact zN rfl
        refine hop1 (fun fr h => ?_) ?_
        · obtain ⟨_h0, -⟩ := h
          refine zc [zI c.per] Tryz.call39 (rPrintZ c.per (by omega) (by omega) M) ?_
          rintro _ _ ⟨rfl, rfl⟩
          exact zN rfl
        refine hop1 (fun fr h => ?_) ?_
        · obtain ⟨_h0, _h1, -⟩ := h
          refine zr (Reader.cat rfl (by first | rfl | assumption) (by first | rfl | assumption) (by first | omega | (simp only [List.length_append, List.length_cons, List.length_nil]; omega) | (simp; omega)) (c := ((hdT c ++ jT ((thL c).take i)) ++ [112, 101, 114, 105, 111, 100, 32]) ++ (zW c.per)) rfl) ?_
          exact zN rfl
        refine hop1 (fun fr h => ?_) ?_
        · obtain ⟨_h0, -⟩ := h
          refine zr (Reader.cat rfl (by first | rfl | assumption) (by first | rfl | assumption) (by first | omega | (simp only [List.length_append, List.length_cons, List.length_nil]; omega) | (simp; omega)) (c := (((hdT c ++ jT ((thL c).take i)) ++ [112, 101, 114, 105, 111, 100, 32]) ++ (zW c.per)) ++ [10, 114, 101, 116, 114, 105, 101, 115, 32]) rfl) ?_
          exact zN rfl
        refine hop1 (fun fr h => ?_) ?_
        · obtain ⟨_h0, -⟩ := h
          refine zr (zfE Tryz.underlying27 sizeOf_3) ?_
          exact zN rfl
        refine hop1 (fun fr h => ?_) ?_
        · obtain ⟨_h0, -⟩ := h
          refine zr (zlE (zI c.ret) Tryz.underlying3 sizeOf_3) ?_
          exact zN rfl
        refine hop1 (fun fr h => ?_) ?_
        · obtain ⟨_h0, -⟩ := h
          refine zc [zI c.ret] Tryz.call39 (rPrintZ c.ret (by omega) (by omega) M) ?_
          rintro _ _ ⟨rfl, rfl⟩
          exact zN rfl
        refine hop1 (fun fr h => ?_) ?_
        · obtain ⟨_h0, _h1, -⟩ := h
          refine zr (Reader.cat rfl (by first | rfl | assumption) (by first | rfl | assumption) (by first | omega | (simp only [List.length_append, List.length_cons, List.length_nil]; omega) | (simp; omega)) (c := ((((hdT c ++ jT ((thL c).take i)) ++ [112, 101, 114, 105, 111, 100, 32]) ++ (zW c.per)) ++ [10, 114, 101, 116, 114, 105, 101, 115, 32]) ++ (zW c.ret)) rfl) ?_
          exact zN rfl
        refine hop1 (fun fr h => ?_) ?_
        · obtain ⟨_h0, -⟩ := h
          refine zr (Reader.cat rfl (by first | rfl | assumption) (by first | rfl | assumption) (by first | omega | (simp only [List.length_append, List.length_cons, List.length_nil]; omega) | (simp; omega)) (c := (((((hdT c ++ jT ((thL c).take i)) ++ [112, 101, 114, 105, 111, 100, 32]) ++ (zW c.per)) ++ [10, 114, 101, 116, 114, 105, 101, 115, 32]) ++ (zW c.ret)) ++ [10, 109, 97, 120, 97, 103, 101, 32]) rfl) ?_
          exact zN rfl
        refine hop1 (fun fr h => ?_) ?_
        · obtain ⟨_h0, -⟩ := h
          refine zr (zfE Tryz.underlying27 sizeOf_3) ?_
          exact zN rfl
        refine hop1 (fun fr h => ?_) ?_
        · obtain ⟨_h0, -⟩ := h
          refine zr (zlE (zI c.age) Tryz.underlying3 sizeOf_3) ?_
          exact zN rfl
        refine hop1 (fun fr h => ?_) ?_
        · obtain ⟨_h0, -⟩ := h
          refine zc [zI c.age] Tryz.call39 (rPrintZ c.age (by omega) (by omega) M) ?_
          rintro _ _ ⟨rfl, rfl⟩
          exact zN rfl
        refine hop1 (fun fr h => ?_) ?_
        · obtain ⟨_h0, _h1, -⟩ := h
          refine zr (Reader.cat rfl (by first | rfl | assumption) (by first | rfl | assumption) (by first | omega | (simp only [List.length_append, List.length_cons, List.length_nil]; omega) | (simp; omega)) (c := ((((((hdT c ++ jT ((thL c).take i)) ++ [112, 101, 114, 105, 111, 100, 32]) ++ (zW c.per)) ++ [10, 114, 101, 116, 114, 105, 101, 115, 32]) ++ (zW c.ret)) ++ [10, 109, 97, 120, 97, 103, 101, 32]) ++ (zW c.age)) rfl) ?_
          exact zN rfl
        refine hop1 (fun fr h => ?_) ?_
        · obtain ⟨_h0, -⟩ := h
          refine zr (Reader.cat rfl (by first | rfl | assumption) (by first | rfl | assumption) (by first | omega | (simp only [List.length_append, List.length_cons, List.length_nil]; omega) | (simp; omega)) (c := (((((((hdT c ++ jT ((thL c).take i)) ++ [112, 101, 114, 105, 111, 100, 32]) ++ (zW c.per)) ++ [10, 114, 101, 116, 114, 105, 101, 115, 32]) ++ (zW c.ret)) ++ [10, 109, 97, 120, 97, 103, 101, 32]) ++ (zW c.age)) ++ [10, 100, 101, 97, 100, 32]) rfl) ?_
          exact zN rfl
        refine hop1 (fun fr h => ?_) ?_
        · obtain ⟨_h0, -⟩ := h
          refine zr (zfE Tryz.underlying27 sizeOf_3) ?_
          exact zN rfl
        refine hop1 (fun fr h => ?_) ?_
        · obtain ⟨_h0, -⟩ := h
          refine zr (zlE (zI c.ded) Tryz.underlying3 sizeOf_3) ?_
          exact zN rfl
        refine hop1 (fun fr h => ?_) ?_
        · obtain ⟨_h0, -⟩ := h
          refine zc [zI c.ded] Tryz.call39 (rPrintZ c.ded (by omega) (by omega) M) ?_
          rintro _ _ ⟨rfl, rfl⟩
          exact zN rfl
        refine hop1 (fun fr h => ?_) ?_
        · obtain ⟨_h0, _h1, -⟩ := h
          refine zr (Reader.cat rfl (by first | rfl | assumption) (by first | rfl | assumption) (by first | omega | (simp only [List.length_append, List.length_cons, List.length_nil]; omega) | (simp; omega)) (c := ((((((((hdT c ++ jT ((thL c).take i)) ++ [112, 101, 114, 105, 111, 100, 32]) ++ (zW c.per)) ++ [10, 114, 101, 116, 114, 105, 101, 115, 32]) ++ (zW c.ret)) ++ [10, 109, 97, 120, 97, 103, 101, 32]) ++ (zW c.age)) ++ [10, 100, 101, 97, 100, 32]) ++ (zW c.ded)) rfl) ?_
          exact zN rfl
        refine hop1 (fun fr h => ?_) ?_
        · obtain ⟨_h0, -⟩ := h
          refine zr (Reader.cat rfl (by first | rfl | assumption) (by first | rfl | assumption) (by first | omega | (simp only [List.length_append, List.length_cons, List.length_nil]; omega) | (simp; omega)) (c := (((((((((hdT c ++ jT ((thL c).take i)) ++ [112, 101, 114, 105, 111, 100, 32]) ++ (zW c.per)) ++ [10, 114, 101, 116, 114, 105, 101, 115, 32]) ++ (zW c.ret)) ++ [10, 109, 97, 120, 97, 103, 101, 32]) ++ (zW c.age)) ++ [10, 100, 101, 97, 100, 32]) ++ (zW c.ded)) ++ [10]) rfl) ?_
          exact zN rfl
        refine hop1 (fun fr h => ?_) ?_
        · obtain ⟨_h0, -⟩ := h
          refine zM (.str ((((((((((hdT c ++ jT ((thL c).take i)) ++ [112, 101, 114, 105, 111, 100, 32]) ++ (zW c.per)) ++ [10, 114, 101, 116, 114, 105, 101, 115, 32]) ++ (zW c.ret)) ++ [10, 109, 97, 120, 97, 103, 101, 32]) ++ (zW c.age)) ++ [10, 100, 101, 97, 100, 32]) ++ (zW c.ded)) ++ [10])) ?_
          exact zN rfl
        exact hop0
      refine AWp.ret ?_
      exact ⟨.inl rfl, _, ResOf.one 2 (.str ((((((((((hdT c ++ jT ((thL c).take i)) ++ [112, 101, 114, 105, 111, 100, 32]) ++ (zW c.per)) ++ [10, 114, 101, 116, 114, 105, 101, 115, 32]) ++ (zW c.ret)) ++ [10, 109, 97, 120, 97, 103, 101, 32]) ++ (zW c.age)) ++ [10, 100, 101, 97, 100, 32]) ++ (zW c.ded)) ++ [10])) rfl rfl, ⟨congrArg AV.str (by rw [List.take_of_length_le (by rw [thL_len]; omega)]; exact txt_end), rfl⟩⟩
end
section
open Go.RowKit
theorem cra_0 (M : Nat → Option (List AV)) : ACall Tryz.prog 10 [.list false 5 (byteAVs [99, 97, 112, 97, 99, 105, 116, 121, 32, 56, 71, 105, 32, 49, 84, 105, 32, 49, 48, 48, 48, 10, 97, 108, 108, 111, 99, 97, 116, 97, 98, 108, 101, 32, 52, 107, 32, 55, 71, 105, 32, 57, 48, 48, 10, 112, 101, 114, 105, 111, 100, 32, 53, 10, 114, 101, 116, 114, 105, 101, 115, 32, 50, 10, 109, 97, 120, 97, 103, 101, 32, 51, 10, 100, 101, 97, 100, 32, 49, 10, 116, 104, 114, 101, 115, 104, 111, 108, 100, 32, 109, 101, 109, 111, 114, 121, 60, 49, 48, 37, 10])] M (fun r M' => r = .tuple [encC (⟨8589934592, 1099511627776, 1000, 4000, 7516192768, 900, [⟨0, 10, 0, false, 0⟩], 5, 2, 3, 1⟩ : Cfg), .lit (.int .i64 0), .lit (.int .i64 0)] ∧ M = M') := by
  have h := CRead_any [99, 97, 112, 97, 99, 105, 116, 121, 32, 56, 71, 105, 32, 49, 84, 105, 32, 49, 48, 48, 48, 10, 97, 108, 108, 111, 99, 97, 116, 97, 98, 108, 101, 32, 52, 107, 32, 55, 71, 105, 32, 57, 48, 48, 10, 112, 101, 114, 105, 111, 100, 32, 53, 10, 114, 101, 116, 114, 105, 101, 115, 32, 50, 10, 109, 97, 120, 97, 103, 101, 32, 51, 10, 100, 101, 97, 100, 32, 49, 10, 116, 104, 114, 101, 115, 104, 111, 108, 100, 32, 109, 101, 109, 111, 114, 121, 60, 49, 48, 37, 10] (by decide) M
  rw [show cfC [99, 97, 112, 97, 99, 105, 116, 121, 32, 56, 71, 105, 32, 49, 84, 105, 32, 49, 48, 48, 48, 10, 97, 108, 108, 111, 99, 97, 116, 97, 98, 108, 101, 32, 52, 107, 32, 55, 71, 105, 32, 57, 48, 48, 10, 112, 101, 114, 105, 111, 100, 32, 53, 10, 114, 101, 116, 114, 105, 101, 115, 32, 50, 10, 109, 97, 120, 97, 103, 101, 32, 51, 10, 100, 101, 97, 100, 32, 49, 10, 116, 104, 114, 101, 115, 104, 111, 108, 100, 32, 109, 101, 109, 111, 114, 121, 60, 49, 48, 37, 10] = (⟨8589934592, 1099511627776, 1000, 4000, 7516192768, 900, [⟨0, 10, 0, false, 0⟩], 5, 2, 3, 1⟩ : Cfg) from by decide +kernel, show cfN [99, 97, 112, 97, 99, 105, 116, 121, 32, 56, 71, 105, 32, 49, 84, 105, 32, 49, 48, 48, 48, 10, 97, 108, 108, 111, 99, 97, 116, 97, 98, 108, 101, 32, 52, 107, 32, 55, 71, 105, 32, 57, 48, 48, 10, 112, 101, 114, 105, 111, 100, 32, 53, 10, 114, 101, 116, 114, 105, 101, 115, 32, 50, 10, 109, 97, 120, 97, 103, 101, 32, 51, 10, 100, 101, 97, 100, 32, 49, 10, 116, 104, 114, 101, 115, 104, 111, 108, 100, 32, 109, 101, 109, 111, 114, 121, 60, 49, 48, 37, 10] = 0 from by decide +kernel, show cfE [99, 97, 112, 97, 99, 105, 116, 121, 32, 56, 71, 105, 32, 49, 84, 105, 32, 49, 48, 48, 48, 10, 97, 108, 108, 111, 99, 97, 116, 97, 98, 108, 101, 32, 52, 107, 32, 55, 71, 105, 32, 57, 48, 48, 10, 112, 101, 114, 105, 111, 100, 32, 53, 10, 114, 101, 116, 114, 105, 101, 115, 32, 50, 10, 109, 97, 120, 97, 103, 101, 32, 51, 10, 100, 101, 97, 100, 32, 49, 10, 116, 104, 114, 101, 115, 104, 111, 108, 100, 32, 109, 101, 109, 111, 114, 121, 60, 49, 48, 37, 10] = 0 from by decide +kernel] at h
  exact h
theorem cra_1 (M : Nat → Option (List AV)) : ACall Tryz.prog 10 [.list false 5 (byteAVs [112, 101, 114, 105, 111, 100, 32, 53, 10, 10, 112, 101, 114, 105, 111, 100, 32, 53])] M (fun r M' => r = .tuple [encC (⟨0, 0, 0, 0, 0, 0, [], 0, 0, 0, 0⟩ : Cfg), .lit (.int .i64 3), .lit (.int .i64 5)] ∧ M = M') := by
  have h := CRead_any [112, 101, 114, 105, 111, 100, 32, 53, 10, 10, 112, 101, 114, 105, 111, 100, 32, 53] (by decide) M
  rw [show cfC [112, 101, 114, 105, 111, 100, 32, 53, 10, 10, 112, 101, 114, 105, 111, 100, 32, 53] = (⟨0, 0, 0, 0, 0, 0, [], 0, 0, 0, 0⟩ : Cfg) from by decide +kernel, show cfN [112, 101, 114, 105, 111, 100, 32, 53, 10, 10, 112, 101, 114, 105, 111, 100, 32, 53] = 3 from by decide +kernel, show cfE [112, 101, 114, 105, 111, 100, 32, 53, 10, 10, 112, 101, 114, 105, 111, 100, 32, 53] = 5 from by decide +kernel] at h
  exact h
theorem cra_2 (M : Nat → Option (List AV)) : ACall Tryz.prog 10 [.list false 5 (byteAVs [])] M (fun r M' => r = .tuple [encC (⟨0, 0, 0, 0, 0, 0, [], 0, 0, 0, 0⟩ : Cfg), .lit (.int .i64 0), .lit (.int .i64 4)] ∧ M = M') := by
  have h := CRead_any [] (by decide) M
  rw [show cfC [] = (⟨0, 0, 0, 0, 0, 0, [], 0, 0, 0, 0⟩ : Cfg) from by decide +kernel, show cfN [] = 0 from by decide +kernel, show cfE [] = 4 from by decide +kernel] at h
  exact h
theorem cpa_0 (M : Nat → Option (List AV)) : ACall Tryz.prog 15 [encC (⟨8589934592, 1099511627776, 1000, 4000, 7516192768, 900, [⟨0, 10, 0, false, 0⟩], 5, 2, 3, 1⟩ : Cfg)] M (fun r M' => r = .tuple [.str [99, 97, 112, 97, 99, 105, 116, 121, 32, 56, 71, 105, 32, 49, 84, 105, 32, 49, 107, 10, 97, 108, 108, 111, 99, 97, 116, 97, 98, 108, 101, 32, 52, 107, 32, 55, 71, 105, 32, 57, 48, 48, 10, 116, 104, 114, 101, 115, 104, 111, 108, 100, 32, 109, 101, 109, 111, 114, 121, 60, 49, 48, 37, 10, 112, 101, 114, 105, 111, 100, 32, 53, 10, 114, 101, 116, 114, 105, 101, 115, 32, 50, 10, 109, 97, 120, 97, 103, 101, 32, 51, 10, 100, 101, 97, 100, 32, 49, 10], .lit (.int .i64 0)] ∧ M = M') := by
  have h := CPrint_any (⟨8589934592, 1099511627776, 1000, 4000, 7516192768, 900, [⟨0, 10, 0, false, 0⟩], 5, 2, 3, 1⟩ : Cfg) ⟨by decide, by decide, by decide, by decide, by decide, by decide, by decide, by decide, by decide, by decide, by decide⟩ (by decide) M
  rw [show prtC (⟨8589934592, 1099511627776, 1000, 4000, 7516192768, 900, [⟨0, 10, 0, false, 0⟩], 5, 2, 3, 1⟩ : Cfg) = .tuple [.str [99, 97, 112, 97, 99, 105, 116, 121, 32, 56, 71, 105, 32, 49, 84, 105, 32, 49, 107, 10, 97, 108, 108, 111, 99, 97, 116, 97, 98, 108, 101, 32, 52, 107, 32, 55, 71, 105, 32, 57, 48, 48, 10, 116, 104, 114, 101, 115, 104, 111, 108, 100, 32, 109, 101, 109, 111, 114, 121, 60, 49, 48, 37, 10, 112, 101, 114, 105, 111, 100, 32, 53, 10, 114, 101, 116, 114, 105, 101, 115, 32, 50, 10, 109, 97, 120, 97, 103, 101, 32, 51, 10, 100, 101, 97, 100, 32, 49, 10], .lit (.int .i64 0)] from by rw [← prt_ok (by decide +kernel), show textC (⟨8589934592, 1099511627776, 1000, 4000, 7516192768, 900, [⟨0, 10, 0, false, 0⟩], 5, 2, 3, 1⟩ : Cfg) = [99, 97, 112, 97, 99, 105, 116, 121, 32, 56, 71, 105, 32, 49, 84, 105, 32, 49, 107, 10, 97, 108, 108, 111, 99, 97, 116, 97, 98, 108, 101, 32, 52, 107, 32, 55, 71, 105, 32, 57, 48, 48, 10, 116, 104, 114, 101, 115, 104, 111, 108, 100, 32, 109, 101, 109, 111, 114, 121, 60, 49, 48, 37, 10, 112, 101, 114, 105, 111, 100, 32, 53, 10, 114, 101, 116, 114, 105, 101, 115, 32, 50, 10, 109, 97, 120, 97, 103, 101, 32, 51, 10, 100, 101, 97, 100, 32, 49, 10] from by decide +kernel]] at h
  exact h
theorem cpa_1 (M : Nat → Option (List AV)) : ACall Tryz.prog 15 [encC (⟨0, 0, 0, 0, 0, 0, [], 0, 0, 0, 0⟩ : Cfg)] M (fun r M' => r = .tuple [.str [], .lit (.int .i64 1)] ∧ M = M') := by
  have h := CPrint_any (⟨0, 0, 0, 0, 0, 0, [], 0, 0, 0, 0⟩ : Cfg) ⟨by decide, by decide, by decide, by decide, by decide, by decide, by decide, by decide, by decide, by decide, by decide⟩ (by decide) M
  rw [← prt_no (by decide +kernel)] at h
  exact h
theorem cria (M : Nat → Option (List AV)) : ACall Tryz.prog 16 [encC (⟨8589934592, 1099511627776, 1000, 4000, 7516192768, 900, [⟨0, 10, 0, false, 0⟩], 5, 2, 3, 1⟩ : Cfg)] M (fun r M' => r = .lit (.bool true) ∧ M = M') := CRight_any (⟨8589934592, 1099511627776, 1000, 4000, 7516192768, 900, [⟨0, 10, 0, false, 0⟩], 5, 2, 3, 1⟩ : Cfg) (by decide) M
theorem csa (M : Nat → Option (List AV)) : ACall Tryz.prog 17 [encC (⟨8589934592, 1099511627776, 1000, 4000, 7516192768, 900, [⟨0, 10, 0, false, 0⟩], 5, 2, 3, 1⟩ : Cfg), encC (⟨8589934592, 1099511627776, 1000, 4000, 7516192768, 900, [⟨0, 10, 0, false, 0⟩], 5, 2, 3, 1⟩ : Cfg)] M (fun r M' => r = .lit (.bool true) ∧ M = M') := CSame_any (⟨8589934592, 1099511627776, 1000, 4000, 7516192768, 900, [⟨0, 10, 0, false, 0⟩], 5, 2, 3, 1⟩ : Cfg) (⟨8589934592, 1099511627776, 1000, 4000, 7516192768, 900, [⟨0, 10, 0, false, 0⟩], 5, 2, 3, 1⟩ : Cfg) (by decide) M

set_option maxRecDepth 20000 in
theorem cawake_any  (M : Nat → Option (List AV)) : ACall Tryz.prog 9 [] M (fun r M' => r = zB true ∧ M = M') := by
  refine ACall.of Tryz.func9 rfl (n := 95) rfl rfl rfl ?_
  refine zg ?_
  refine zM (zB false) ?_
  refine zN ?_
  refine zg ?_
  refine zbS [] (byteAVs [99, 97, 112, 97, 99, 105, 116, 121, 32, 56, 71, 105, 32, 49, 84, 105, 32, 49, 48, 48, 48, 10, 97, 108, 108, 111, 99, 97, 116, 97, 98, 108, 101, 32, 52, 107, 32, 55, 71, 105, 32, 57, 48, 48, 10, 112, 101, 114, 105, 111, 100, 32, 53, 10, 114, 101, 116, 114, 105, 101, 115, 32, 50, 10, 109, 97, 120, 97, 103, 101, 32, 51, 10, 100, 101, 97, 100, 32, 49, 10, 116, 104, 114, 101, 115, 104, 111, 108, 100, 32, 109, 101, 109, 111, 114, 121, 60, 49, 48, 37, 10]) Tryz.underlying22 Tryz.i5 ?_
  refine AOps.convBytes (xs := (byteAVs [99, 97, 112, 97, 99, 105, 116, 121, 32, 56, 71, 105, 32, 49, 84, 105, 32, 49, 48, 48, 48, 10, 97, 108, 108, 111, 99, 97, 116, 97, 98, 108, 101, 32, 52, 107, 32, 55, 71, 105, 32, 57, 48, 48, 10, 112, 101, 114, 105, 111, 100, 32, 53, 10, 114, 101, 116, 114, 105, 101, 115, 32, 50, 10, 109, 97, 120, 97, 103, 101, 32, 51, 10, 100, 101, 97, 100, 32, 49, 10, 116, 104, 114, 101, 115, 104, 111, 108, 100, 32, 109, 101, 109, 111, 114, 121, 60, 49, 48, 37, 10])) trivial rfl (by decide) rfl Tryz.underlying22 Tryz.underlying5 rfl rfl ?_
  refine zc [.list false 5 (byteAVs [99, 97, 112, 97, 99, 105, 116, 121, 32, 56, 71, 105, 32, 49, 84, 105, 32, 49, 48, 48, 48, 10, 97, 108, 108, 111, 99, 97, 116, 97, 98, 108, 101, 32, 52, 107, 32, 55, 71, 105, 32, 57, 48, 48, 10, 112, 101, 114, 105, 111, 100, 32, 53, 10, 114, 101, 116, 114, 105, 101, 115, 32, 50, 10, 109, 97, 120, 97, 103, 101, 32, 51, 10, 100, 101, 97, 100, 32, 49, 10, 116, 104, 114, 101, 115, 104, 111, 108, 100, 32, 109, 101, 109, 111, 114, 121, 60, 49, 48, 37, 10])] Tryz.call10 (cra_0 M) ?_
  rintro _ _ ⟨rfl, rfl⟩
  refine zM (.tuple [encC (⟨8589934592, 1099511627776, 1000, 4000, 7516192768, 900, [⟨0, 10, 0, false, 0⟩], 5, 2, 3, 1⟩ : Cfg), zI 0, zI 0]) ?_
  refine zr (zx (encC (⟨8589934592, 1099511627776, 1000, 4000, 7516192768, 900, [⟨0, 10, 0, false, 0⟩], 5, 2, 3, 1⟩ : Cfg))) ?_
  refine zr (zx (zI 0)) ?_
  refine zr (zx (zI 0)) ?_
  refine zal [40] zero_27 [zI 0, zI 0, zI 0, zI 0, zI 0, zI 0, .list false 40 [], zI 0, zI 0, zI 0, zI 0] ?_
  refine zst sizeOf_27 (encC (⟨8589934592, 1099511627776, 1000, 4000, 7516192768, 900, [⟨0, 10, 0, false, 0⟩], 5, 2, 3, 1⟩ : Cfg)) ?_
  refine zM (zI 0) ?_
  refine zM (zI 0) ?_
  refine zN ?_
  refine zg ?_
  refine zbS [] (byteAVs [112, 101, 114, 105, 111, 100, 32, 53, 10, 10, 112, 101, 114, 105, 111, 100, 32, 53]) Tryz.underlying22 Tryz.i5 ?_
  refine AOps.convBytes (xs := (byteAVs [112, 101, 114, 105, 111, 100, 32, 53, 10, 10, 112, 101, 114, 105, 111, 100, 32, 53])) trivial rfl (by decide) rfl Tryz.underlying22 Tryz.underlying5 rfl rfl ?_
  refine zc [.list false 5 (byteAVs [112, 101, 114, 105, 111, 100, 32, 53, 10, 10, 112, 101, 114, 105, 111, 100, 32, 53])] Tryz.call10 (cra_1 M) ?_
  rintro _ _ ⟨rfl, rfl⟩
  refine zM (.tuple [encC (⟨0, 0, 0, 0, 0, 0, [], 0, 0, 0, 0⟩ : Cfg), zI 3, zI 5]) ?_
  refine zr (zx (encC (⟨0, 0, 0, 0, 0, 0, [], 0, 0, 0, 0⟩ : Cfg))) ?_
  refine zr (zx (zI 3)) ?_
  refine zr (zx (zI 5)) ?_
  refine zal [40] zero_27 [zI 0, zI 0, zI 0, zI 0, zI 0, zI 0, .list false 40 [], zI 0, zI 0, zI 0, zI 0] ?_
  refine zst sizeOf_27 (encC (⟨0, 0, 0, 0, 0, 0, [], 0, 0, 0, 0⟩ : Cfg)) ?_
  refine zM (zI 3) ?_
  refine zM (zI 5) ?_
  refine zN ?_
  refine zg ?_
  refine zc [.list false 5 (byteAVs ([] : List UInt8))] Tryz.call10 (cra_2 M) ?_
  rintro _ _ ⟨rfl, rfl⟩
  refine zM (.tuple [encC (⟨0, 0, 0, 0, 0, 0, [], 0, 0, 0, 0⟩ : Cfg), zI 0, zI 4]) ?_
  refine zr (zx (encC (⟨0, 0, 0, 0, 0, 0, [], 0, 0, 0, 0⟩ : Cfg))) ?_
  refine zr (zx (zI 0)) ?_
  refine zr (zx (zI 4)) ?_
  refine zal [40] zero_27 [zI 0, zI 0, zI 0, zI 0, zI 0, zI 0, .list false 40 [], zI 0, zI 0, zI 0, zI 0] ?_
  refine zst sizeOf_27 (encC (⟨0, 0, 0, 0, 0, 0, [], 0, 0, 0, 0⟩ : Cfg)) ?_
  refine zM (zI 0) ?_
  refine zM (zI 4) ?_
  refine zN ?_
  refine zg ?_
  refine zr (zlL (.agg [zI 8589934592, zI 1099511627776, zI 1000, zI 4000, zI 7516192768, zI 900, .list false 40 (([⟨0, 10, 0, false, 0⟩] : List Thr).map encT), zI 5, zI 2, zI 3, zI 1]) Tryz.underlying27 sizeOf_27) ?_
  refine zc [encC (⟨8589934592, 1099511627776, 1000, 4000, 7516192768, 900, [⟨0, 10, 0, false, 0⟩], 5, 2, 3, 1⟩ : Cfg)] Tryz.call15 (cpa_0 M) ?_
  rintro _ _ ⟨rfl, rfl⟩
  refine zM (.tuple [.str [99, 97, 112, 97, 99, 105, 116, 121, 32, 56, 71, 105, 32, 49, 84, 105, 32, 49, 107, 10, 97, 108, 108, 111, 99, 97, 116, 97, 98, 108, 101, 32, 52, 107, 32, 55, 71, 105, 32, 57, 48, 48, 10, 116, 104, 114, 101, 115, 104, 111, 108, 100, 32, 109, 101, 109, 111, 114, 121, 60, 49, 48, 37, 10, 112, 101, 114, 105, 111, 100, 32, 53, 10, 114, 101, 116, 114, 105, 101, 115, 32, 50, 10, 109, 97, 120, 97, 103, 101, 32, 51, 10, 100, 101, 97, 100, 32, 49, 10], zI 0]) ?_
  refine zr (zx (.str [99, 97, 112, 97, 99, 105, 116, 121, 32, 56, 71, 105, 32, 49, 84, 105, 32, 49, 107, 10, 97, 108, 108, 111, 99, 97, 116, 97, 98, 108, 101, 32, 52, 107, 32, 55, 71, 105, 32, 57, 48, 48, 10, 116, 104, 114, 101, 115, 104, 111, 108, 100, 32, 109, 101, 109, 111, 114, 121, 60, 49, 48, 37, 10, 112, 101, 114, 105, 111, 100, 32, 53, 10, 114, 101, 116, 114, 105, 101, 115, 32, 50, 10, 109, 97, 120, 97, 103, 101, 32, 51, 10, 100, 101, 97, 100, 32, 49, 10])) ?_
  refine zr (zx (zI 0)) ?_
  refine zM (.str [99, 97, 112, 97, 99, 105, 116, 121, 32, 56, 71, 105, 32, 49, 84, 105, 32, 49, 107, 10, 97, 108, 108, 111, 99, 97, 116, 97, 98, 108, 101, 32, 52, 107, 32, 55, 71, 105, 32, 57, 48, 48, 10, 116, 104, 114, 101, 115, 104, 111, 108, 100, 32, 109, 101, 109, 111, 114, 121, 60, 49, 48, 37, 10, 112, 101, 114, 105, 111, 100, 32, 53, 10, 114, 101, 116, 114, 105, 101, 115, 32, 50, 10, 109, 97, 120, 97, 103, 101, 32, 51, 10, 100, 101, 97, 100, 32, 49, 10]) ?_
  refine zM (zI 0) ?_
  refine zN ?_
  refine zg ?_
  refine zr (Reader.build (xs := []) (Es := [40]) (places := places_27) rfl Tryz.underlying27 (by refine ⟨rfl, fun j p x hp hx => ?_⟩; match j, hp, hx with | _ + 0, hp, hx => cases hp) zero_27 rfl places_27_ok (cs := [zI 0, zI 0, zI 0, zI 0, zI 0, zI 0, .list false 40 [], zI 0, zI 0, zI 0, zI 0]) rfl) ?_
  refine zc [encC (⟨0, 0, 0, 0, 0, 0, [], 0, 0, 0, 0⟩ : Cfg)] Tryz.call15 (cpa_1 M) ?_
  rintro _ _ ⟨rfl, rfl⟩
  refine zM (.tuple [.str [], zI 1]) ?_
  refine zr (zx (.str [])) ?_
  refine zr (zx (zI 1)) ?_
  refine zM (.str []) ?_
  refine zM (zI 1) ?_
  refine zN ?_
  refine zj 0 [(1, .lptr 1 0), (2, zI 0), (3, zI 0), (5, zI 3), (6, zI 5), (9, zI 4), (10, .str [99, 97, 112, 97, 99, 105, 116, 121, 32, 56, 71, 105, 32, 49, 84, 105, 32, 49, 107, 10, 97, 108, 108, 111, 99, 97, 116, 97, 98, 108, 101, 32, 52, 107, 32, 55, 71, 105, 32, 57, 48, 48, 10, 116, 104, 114, 101, 115, 104, 111, 108, 100, 32, 109, 101, 109, 111, 114, 121, 60, 49, 48, 37, 10, 112, 101, 114, 105, 111, 100, 32, 53, 10, 114, 101, 116, 114, 105, 101, 115, 32, 50, 10, 109, 97, 120, 97, 103, 101, 32, 51, 10, 100, 101, 97, 100, 32, 49, 10]), (11, zI 0), (13, zI 1)] [(1, [zI 8589934592, zI 1099511627776, zI 1000, zI 4000, zI 7516192768, zI 900, .list false 40 (([⟨0, 10, 0, false, 0⟩] : List Thr).map encT), zI 5, zI 2, zI 3, zI 1]), (4, [zI 0, zI 0, zI 0, zI 0, zI 0, zI 0, .list false 40 (([] : List Thr).map encT), zI 0, zI 0, zI 0, zI 0]), (7, [zI 0, zI 0, zI 0, zI 0, zI 0, zI 0, .list false 40 (([] : List Thr).map encT), zI 0, zI 0, zI 0, zI 0])] M true ?_ ?_
  · skip
    refine zM (zI 0) ?_
    refine zr (zi true) ?_
    refine zM (zB true) ?_
    refine zM (zI 0) ?_
    refine zr (zi true) ?_
    refine zr (zp true (zB true)) ?_
    refine zM (zB true) ?_
    refine zr (zfL Tryz.underlying27 sizeOf_24) ?_
    refine zr (ziL 0 Tryz.underlying24 sizeOf_3) ?_
    refine zr (zlL (zI 4000) Tryz.underlying3 sizeOf_3) ?_
    refine zr (zi true) ?_
    refine zr (zp true (zB true)) ?_
    refine zM (zB true) ?_
    refine zr (zfL Tryz.underlying27 sizeOf_25) ?_
    refine zr (zlL (.list false 40 (([⟨0, 10, 0, false, 0⟩] : List Thr).map encT)) Tryz.underlying25 sizeOf_25) ?_
    refine zr (zL (([⟨0, 10, 0, false, 0⟩] : List Thr).map encT) 1 Tryz.underlying25 rfl) ?_
    refine zr (zi true) ?_
    refine zr (zp true (zB true)) ?_
    refine zM (zB true) ?_
    refine zM (zI 5) ?_
    refine zr (zi true) ?_
    refine zr (zp true (zB true)) ?_
    refine zM (zB true) ?_
    refine zM (zI 3) ?_
    refine zr (zi true) ?_
    refine zr (zp true (zB true)) ?_
    refine zM (zB true) ?_
    refine zM (zI 4) ?_
    refine zr (zi true) ?_
    refine zr (zp true (zB true)) ?_
    refine zM (zB true) ?_
    refine zM (zI 0) ?_
    refine zr (zi true) ?_
    refine zr (zp true (zB true)) ?_
    refine zM (zB true) ?_
    refine zM (.str [99, 97, 112, 97, 99, 105, 116, 121, 32, 56, 71, 105, 32, 49, 84, 105, 32, 49, 107, 10, 97, 108, 108, 111, 99, 97, 116, 97, 98, 108, 101, 32, 52, 107, 32, 55, 71, 105, 32, 57, 48, 48, 10, 116, 104, 114, 101, 115, 104, 111, 108, 100, 32, 109, 101, 109, 111, 114, 121, 60, 49, 48, 37, 10, 112, 101, 114, 105, 111, 100, 32, 53, 10, 114, 101, 116, 114, 105, 101, 115, 32, 50, 10, 109, 97, 120, 97, 103, 101, 32, 51, 10, 100, 101, 97, 100, 32, 49, 10]) ?_
    refine zr (zS [99, 97, 112, 97, 99, 105, 116, 121, 32, 56, 71, 105, 32, 49, 84, 105, 32, 49, 107, 10, 97, 108, 108, 111, 99, 97, 116, 97, 98, 108, 101, 32, 52, 107, 32, 55, 71, 105, 32, 57, 48, 48, 10, 116, 104, 114, 101, 115, 104, 111, 108, 100, 32, 109, 101, 109, 111, 114, 121, 60, 49, 48, 37, 10, 112, 101, 114, 105, 111, 100, 32, 53, 10, 114, 101, 116, 114, 105, 101, 115, 32, 50, 10, 109, 97, 120, 97, 103, 101, 32, 51, 10, 100, 101, 97, 100, 32, 49, 10] 99 Tryz.underlying9 (by first | rfl | simp)) ?_
    refine zr (zi true) ?_
    refine zr (zp true (zB true)) ?_
    refine zM (zB true) ?_
    refine zM (zI 1) ?_
    refine zr (zi true) ?_
    refine zr (zp true (zB true)) ?_
    refine zM (zB true) ?_
    refine zr (zlL (.agg [zI 8589934592, zI 1099511627776, zI 1000, zI 4000, zI 7516192768, zI 900, .list false 40 (([⟨0, 10, 0, false, 0⟩] : List Thr).map encT), zI 5, zI 2, zI 3, zI 1]) Tryz.underlying27 sizeOf_27) ?_
    refine zc [encC (⟨8589934592, 1099511627776, 1000, 4000, 7516192768, 900, [⟨0, 10, 0, false, 0⟩], 5, 2, 3, 1⟩ : Cfg)] Tryz.call16 (cria M) ?_
    rintro _ _ ⟨rfl, rfl⟩
    refine zr (zp true (zB true)) ?_
    refine zM (zB true) ?_
    refine zr (zlL (.agg [zI 8589934592, zI 1099511627776, zI 1000, zI 4000, zI 7516192768, zI 900, .list false 40 (([⟨0, 10, 0, false, 0⟩] : List Thr).map encT), zI 5, zI 2, zI 3, zI 1]) Tryz.underlying27 sizeOf_27) ?_
    refine zr (zlL (.agg [zI 8589934592, zI 1099511627776, zI 1000, zI 4000, zI 7516192768, zI 900, .list false 40 (([⟨0, 10, 0, false, 0⟩] : List Thr).map encT), zI 5, zI 2, zI 3, zI 1]) Tryz.underlying27 sizeOf_27) ?_
    refine zc [encC (⟨8589934592, 1099511627776, 1000, 4000, 7516192768, 900, [⟨0, 10, 0, false, 0⟩], 5, 2, 3, 1⟩ : Cfg), encC (⟨8589934592, 1099511627776, 1000, 4000, 7516192768, 900, [⟨0, 10, 0, false, 0⟩], 5, 2, 3, 1⟩ : Cfg)] Tryz.call17 (csa M) ?_
    rintro _ _ ⟨rfl, rfl⟩
    refine zr (zp true (zB true)) ?_
    refine zM (zB true) ?_
    exact AOps.nil rfl
  refine AWp.ret ?_
  exact ⟨.inl rfl, _, ResOf.one 0 (zB true) rfl rfl, ⟨rfl, rfl⟩⟩

set_option maxRecDepth 20000 in
theorem few_any (c : Cfg) (M : Nat → Option (List AV)) : ACall Tryz.prog 14 [encC c] M (fun r M' => r = zB (decide ((c.thr.length : Int) ≤ 30)) ∧ M = M') := by
  refine ACall.of Tryz.func14 rfl (n := 7) rfl rfl rfl ?_
  refine zg ?_
  refine AOps.box trivial rfl (by decide) rfl (noL rfl) rfl (v := encC c) (.inl ⟨rfl, rfl⟩) rfl rfl (all_flat rfl) ?_
  refine AOps.freezeK 1 [0, 1] [] (s' := ⟨[(0, encC c), (1, .eptr (encC c) 0)], [], M⟩) rfl rfl rfl ?_
  refine zM (zB false) ?_
  refine zN ?_
  refine zg ?_
  refine zr (zfE Tryz.underlying27 sizeOf_25) ?_
  refine zr (zlE (.list false 40 (c.thr.map encT)) Tryz.underlying25 sizeOf_25) ?_
  refine zr (zL (c.thr.map encT) c.thr.length Tryz.underlying25 (by simp)) ?_
  refine zr (zi (decide ((c.thr.length : Int) ≤ 30))) ?_
  refine zM (zB (decide ((c.thr.length : Int) ≤ 30))) ?_
  refine zN ?_
  refine AWp.ret ?_
  exact ⟨.inl rfl, _, ResOf.one 2 (zB (decide ((c.thr.length : Int) ≤ 30))) rfl rfl, ⟨rfl, rfl⟩⟩
end
end Go.Proofs.YtmmfkpbkacfegaaGreatDoor
