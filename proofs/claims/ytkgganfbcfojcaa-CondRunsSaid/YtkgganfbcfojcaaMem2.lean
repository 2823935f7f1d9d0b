/- More on rows that are read. -/
import Derived.Test.YtkgganfbcfojcaaMem
namespace Go.Proofs.Ytkgganfbcfojcaa
open Go.RowKit

theorem Reads.alloc {w : World} {size : Nat} {v : Value} {n : Nat} {xs : List Value} (h : Reads w size v n xs) (o : Obj) : Reads (w.alloc o) size v n xs :=
  h.ext ⟨w.alloc o, (Keeps.out : Below w.heap.size w (w.alloc o))⟩

theorem Reads.keeps {w w' : World} {size : Nat} {v : Value} {n : Nat} {xs : List Value} (h : Reads w size v n xs) [k : Keeps w w'] : Reads w' size v n xs :=
  h.ext ⟨w', k.out⟩

end Go.Proofs.Ytkgganfbcfojcaa
