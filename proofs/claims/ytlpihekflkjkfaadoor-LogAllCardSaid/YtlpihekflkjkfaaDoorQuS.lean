/- What quant takes of Go's library: strings.TrimLeft at digits; strconv.Itoa. -/
import Derived.Test.YtlpihekflkjkfaaDoorQuP2
import Derived.Test.YtlpihekflkjkfaaDoorFacts
import Derived.Test.YtlpihekflkjkfaaDoorShelf
import Derived.Shelf.Strings.SlTrimAscii
import Derived.Lib.AppendIntMem
namespace Go.Proofs.YtlpihekflkjkfaaDoor
open Go.RowKit

theorem Fix.tab {G : Gh} {w : World} (h : Fix G w) : Lib.TabIs Tryd.prog w "internal/strconv.uint64pow10" .u64 Lib.pow10Tab := by
  obtain ⟨F, h1, h2⟩ := h
  have h3 := (h2 w (fun b o e => (h1 b o e).2.1)).2
  first | exact h3 | exact h3.1

theorem trim_any (s : List UInt8) (M : Nat → Option (List AV)) : ACall Tryd.prog 45 [.str s, .str [48, 49, 50, 51, 52, 53, 54, 55, 56, 57]] M (fun r M' => r = .str (s.dropWhile isD) ∧ M = M') := by
  refine ACall.ofBelow rfl ?_
  intro G w vs hm hfx hlen hrel
  obtain ⟨v, u, rfl, h1, h2⟩ := arg2 hlen hrel
  have e1 := relV_str h1
  have e2 := relV_str h2
  subst e1; subst e2
  refine (Any.strings_TrimLeft_laid Tryd.lays161 (by kernel_rfl) ⟨s.toArray⟩ ⟨[48, 49, 50, 51, 52, 53, 54, 55, 56, 57].toArray⟩ w (by decide) (Go.Proofs.ascii_of_all (by decide))).mono ?_
  rintro e w' ⟨rfl, hb⟩
  refine ⟨_, rfl, ?_, hb⟩
  have : Lib.trimLeftS s [48, 49, 50, 51, 52, 53, 54, 55, 56, 57] = s.dropWhile isD := rfl
  simp only [this]
  exact .str _

theorem itoa_any (n : Nat) (hn : n ≤ 9223372036854775807) (M : Nat → Option (List AV)) : ACall Tryd.prog 44 [.lit (.int .i64 (n : Int))] M (fun r M' => r = .str (digs n) ∧ M = M') := by
  refine ACall.ofBelow rfl ?_
  intro G w vs hm hfx hlen hrel
  obtain ⟨v, rfl, h1⟩ := arg1 hlen hrel
  have e1 := relV_lit h1
  subst e1
  refine (Tryd.strconv_Itoa (n : Int) (by omega) (by omega) w hfx.tab).mono ?_
  rintro e w' ⟨rfl, k, os, rfl⟩
  rw [itoa_digs]
  exact ⟨_, rfl, .str _, Lib.below_grow _ _ (Nat.le_refl _) _ _⟩
end Go.Proofs.YtlpihekflkjkfaaDoor
