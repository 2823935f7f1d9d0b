/- Abstract values: append. -/
import Derived.Test.YtfnbfkgknfagmaaAvWr
import Derived.Deep.AppendSrc
namespace Go.Proofs.Ytfnbfkgknfagmaa
open Go.RowKit

section
variable {P : Program} {w : World}

/-- What append does to a row of one's own, or to none. -/
theorem run_app {t tx ty E : TypeId} {size bytes : Nat} {i : TypeInfo} {z : Value} (ht : P.underlying t = some (.slice E)) (hi : P.info? E = some i) (hz : i.zero = some z) (hsz : i.size = size) (hby : i.bytes = bytes) (hzs : z.cells.size = size)
    {v : Value} {n : Nat} {us : List Value} (hown : w.ownsRow 0 E size v n us) {x : Value} {m : Nat} {news : List Value} (hs : Src P size tx x m news w)
    (h63 : n + m ≤ maxLen) (hb : (n + m) * bytes ≤ 140737488355328) :
    ∃ v' w', (Builtin.append_ #[t, tx] ty #[v, x]).run P w = .ok v' w' ∧ w'.ownsRow 0 E size v' (n + m) (us ++ news) ∧ w'.os = w.os ∧ w'.tape = w.tape ∧ w'.output = w.output ∧
      ((v' = v ∧ w' = w ∧ m = 0) ∨ (w'.heap.size = w.heap.size ∧ (∃ g, v.ownBlock = some g ∧ v'.ownBlock = some g ∧ g < w.heap.size ∧ ∀ k, k ≠ g → w'.heap[k]? = w.heap[k]?)) ∨ (w'.heap.size = w.heap.size + 1 ∧ v'.ownBlock = some w.heap.size ∧ ∀ k, k < w.heap.size → w'.heap[k]? = w.heap[k]?)) := by
  subst hsz
  subst hby
  have hsmall : n + m ≤ 9223372036854775807 := by simp only [maxLen] at h63; omega
  -- a new row
  have grown : ∀ (old : Nat), old < n + m → us.length = n * i.size →
      (w.drew.alloc (.cells ((us ++ news).toArray ++ Builtin.zeroCells z.cells (grownCap w (n + m) old E - (n + m))) E)).ownsRow 0 E i.size (.slice (some ⟨w.heap.size, 0, none⟩) (n + m) (grownCap w (n + m) old E)) (n + m) (us ++ news) := by
    intro old ho hl
    have hge := grownCap_ge w (n + m) old E
    have hlen : (us ++ news).length = (n + m) * i.size := by rw [List.length_append, hl, hs.newsLen, Nat.add_mul]
    refine ⟨hlen, .inr ⟨w.heap.size, _, _, rfl, Nat.zero_le _, heap_alloc_new w.drew _, hge, grownCap_le_maxLen w (n + m) old E h63, ?_, ?_⟩⟩
    · rw [Array.size_append, List.size_toArray, size_zeroCells, hzs, hlen, ← Nat.add_mul]
      congr 1
      omega
    · rw [Array.toList_append, ← hlen]
      exact List.take_left
  have fin : ∀ (old : Nat), ((w.drew.alloc (.cells ((us ++ news).toArray ++ Builtin.zeroCells z.cells (grownCap w (n + m) old E - (n + m))) E)).heap.size = w.heap.size + 1) ∧
      ∀ k, k < w.heap.size → (w.drew.alloc (.cells ((us ++ news).toArray ++ Builtin.zeroCells z.cells (grownCap w (n + m) old E - (n + m))) E)).heap[k]? = w.heap[k]? := fun old => ⟨by simp, fun k hk => heap_alloc_old w.drew _ hk⟩
  rcases hown with ⟨hl, ⟨rfl, rfl⟩ | ⟨g, cap, cur, rfl, hbg, hg, hnc, hcm, hcs, htake⟩⟩
  · have hx : us = [] := List.eq_nil_of_length_eq_zero (by simpa using hl)
    subst hx
    by_cases hm : m = 0
    · subst hm
      have hn : news = [] := List.eq_nil_of_length_eq_zero (by simpa using hs.newsLen)
      subst hn
      refine ⟨.slice none 0 0, w, ?_, World.ownsRow_nil w 0 E i.size, rfl, rfl, rfl, .inl ⟨rfl, rfl, rfl⟩⟩
      rcases hs.kind with ⟨e', hk⟩ | hk <;> simp [Builtin.append_, run_underlying ht, run_underlying hk, sizeOf, typeInfo, hi, hs.len, hs.cells]
    · have hr := run_append_grow_src (P := P) w t tx ty E i z ht hi hz none 0 0 [] (run_firstCells_none w.drew i.size 0 0 0) x m news hs (by omega) (by omega) (growslice_fits (by omega) (by omega))
      have h1 := grown 0 (by omega) hl
      have h2 := fin 0
      simp only [Nat.zero_add, List.nil_append] at hr h1 h2 ⊢
      exact ⟨_, _, hr, h1, rfl, rfl, rfl, .inr (.inr ⟨h2.1, rfl, h2.2⟩)⟩
  · have hglt := (Array.getElem?_eq_some_iff.1 hg).1
    by_cases hroom : n + m ≤ cap
    · have hfit : n * i.size + news.length ≤ cur.size := by rw [hs.newsLen, hcs, ← Nat.add_mul]; exact Nat.mul_le_mul_right _ hroom
      have hst := run_storeCells_at (P := P) g (n * i.size) E news 0 cur w hg (by omega) hs.one
      simp only [Nat.add_zero] at hst
      have hr : (Builtin.append_ #[t, tx] ty #[.slice (some ⟨g, 0, none⟩) n cap, x]).run P w = .ok (.slice (some ⟨g, 0, none⟩) (n + m) cap) (w.setRow g (cur.toList.take (n * i.size) ++ news ++ cur.toList.drop (n * i.size + news.length)).toArray) := by
        rcases hs.kind with ⟨e', hk⟩ | hk <;> simp [Builtin.append_, run_underlying ht, run_underlying hk, sizeOf, typeInfo, hi, hs.len, hroom, hs.cells, Addr.add_lit, hst]
      have hlen : (us ++ news).length = (n + m) * i.size := by rw [List.length_append, hl, hs.newsLen, Nat.add_mul]
      refine ⟨_, _, hr, ⟨hlen, .inr ⟨g, cap, _, rfl, Nat.zero_le _, setRow_heap w g cur _ E _ hg, hroom, hcm, ?_, ?_⟩⟩, rfl, rfl, rfl, .inr (.inl ⟨by simp, g, rfl, rfl, hglt, fun k hk => setRow_other w g k _ hk⟩)⟩
      · simp only [List.size_toArray, List.length_append, List.length_take, List.length_drop, Array.length_toList]
        omega
      · rw [htake, ← hlen]
        exact List.take_left
    · have hold : (Builtin.firstCells i.size n (.slice (some ⟨g, 0, none⟩) n cap)).run P w.drew = .ok us.toArray w.drew := by
        refine run_firstCells_some w.drew i.size n ⟨g, 0, none⟩ n cap us hl (fun j u hj => ?_)
        rw [add_at, Nat.zero_add]
        rw [← htake, List.getElem?_take] at hj
        split at hj
        · show w.cell? ⟨g, j, none⟩ = some u
          simp only [World.cell?, hg, Option.isSome_none, Bool.false_eq_true, if_false]
          simpa using hj
        · cases hj
      have hr := run_append_grow_src (P := P) w t tx ty E i z ht hi hz (some ⟨g, 0, none⟩) n cap us hold x m news hs (by omega) (by omega) (growslice_fits (by omega) hb)
      have h2 := fin cap
      exact ⟨_, _, hr, grown cap (by omega) hl, rfl, rfl, rfl, .inr (.inr ⟨h2.1, rfl, h2.2⟩)⟩

/-- .. and to a piece of no elements and no capacity. -/
theorem run_app0 {t tx ty E : TypeId} {size bytes : Nat} {i : TypeInfo} {z : Value} (ht : P.underlying t = some (.slice E)) (hi : P.info? E = some i) (hz : i.zero = some z) (hsz : i.size = size) (hby : i.bytes = bytes) (hzs : z.cells.size = size)
    (b off : Nat) {x : Value} {m : Nat} {news : List Value} (hs : Src P size tx x m news w) (h63 : m ≤ maxLen) (hb : m * bytes ≤ 140737488355328) :
    ((Builtin.append_ #[t, tx] ty #[.slice (some ⟨b, off, none⟩) 0 0, x]).run P w = .ok (.slice (some ⟨b, off, none⟩) 0 0) w ∧ m = 0) ∨
    ∃ v' w', (Builtin.append_ #[t, tx] ty #[.slice (some ⟨b, off, none⟩) 0 0, x]).run P w = .ok v' w' ∧ w'.ownsRow 0 E size v' m news ∧ w'.os = w.os ∧ w'.tape = w.tape ∧ w'.output = w.output ∧
      w'.heap.size = w.heap.size + 1 ∧ v'.ownBlock = some w.heap.size ∧ ∀ k, k < w.heap.size → w'.heap[k]? = w.heap[k]? := by
  subst hsz
  subst hby
  have hsmall : m ≤ 9223372036854775807 := by simp only [maxLen] at h63; omega
  by_cases hm : m = 0
  · subst hm
    have hn : news = [] := List.eq_nil_of_length_eq_zero (by simpa using hs.newsLen)
    subst hn
    refine .inl ⟨?_, rfl⟩
    rcases hs.kind with ⟨e', hk⟩ | hk <;> simp [Builtin.append_, run_underlying ht, run_underlying hk, sizeOf, typeInfo, hi, hs.len, hs.cells, storeCells]
  · have hr := run_append_grow_src (P := P) w t tx ty E i z ht hi hz (some ⟨b, off, none⟩) 0 0 [] (run_firstCells_some w.drew i.size 0 ⟨b, off, none⟩ 0 0 [] (by simp) (fun j u h => by simp at h)) x m news hs (by omega) (by omega) (growslice_fits (by omega) (by rw [Nat.zero_add]; exact hb))
    have hge := grownCap_ge w m 0 E
    simp only [Nat.zero_add, List.nil_append] at hr
    refine .inr ⟨_, _, hr, ⟨hs.newsLen, .inr ⟨w.heap.size, _, _, rfl, Nat.zero_le _, heap_alloc_new w.drew _, hge, grownCap_le_maxLen w m 0 E h63, ?_, ?_⟩⟩, rfl, rfl, rfl, by simp, rfl, fun k hk => heap_alloc_old w.drew _ hk⟩
    · rw [Array.size_append, List.size_toArray, size_zeroCells, hzs, hs.newsLen, ← Nat.add_mul]
      congr 1
      omega
    · rw [Array.toList_append, ← hs.newsLen]
      exact List.take_left

theorem news_of {G : Gh} {ys : List AV} {size : Nat} {b off : Nat} {us : Nat → Value} (hl : ∀ x ∈ ys, x.cells.length = size) (hsc : ∀ x ∈ ys, ∀ c ∈ x.cells, c.scalar = true)
    (hc : ∀ j, j < ys.length * size → w.cell? ⟨b, off + j, none⟩ = some (us j)) (hr : ∀ j c, (ys.flatMap AV.cells)[j]? = some c → RelV P G w c (us j)) :
    let news := (List.range (ys.length * size)).map us
    news.length = ys.length * size ∧ (∀ (j : Nat) u, news[j]? = some u → w.cell? ((⟨b, off, none⟩ : Addr).add j) = some u) ∧ (∀ u ∈ news, u.oneCell' = true) ∧ ∀ (j : Nat) c u, (ys.flatMap AV.cells)[j]? = some c → news[j]? = some u → RelV P G w c u := by
  have key : ∀ (j : Nat) u, ((List.range (ys.length * size)).map us)[j]? = some u → j < ys.length * size ∧ us j = u := by
    intro j u h
    have hj : j < ys.length * size := by have := (List.getElem?_eq_some_iff.1 h).1; simpa using this
    rw [List.getElem?_map, List.getElem?_range hj] at h
    simp at h
    exact ⟨hj, h⟩
  refine ⟨by simp, fun j u h => ?_, fun u hu => ?_, fun j c u h1 h2 => ?_⟩
  · obtain ⟨h1, rfl⟩ := key j u h
    rw [add_at]; exact hc j h1
  · obtain ⟨j, hj, rfl⟩ := List.mem_map.1 hu
    simp at hj
    have hlen := flat_len hl
    obtain ⟨c, hcc⟩ : ∃ c, (ys.flatMap AV.cells)[j]? = some c := ⟨(ys.flatMap AV.cells)[j]'(by omega), by simp⟩
    have hmem := List.mem_of_getElem? hcc
    obtain ⟨x, hx, hxc⟩ := List.mem_flatMap.1 hmem
    exact (hr j c hcc).oneCell (hsc x hx c hxc)
  · obtain ⟨_, rfl⟩ := key j u h2
    exact hr j c h1
end

end Go.Proofs.Ytfnbfkgknfagmaa
