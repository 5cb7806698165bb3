/- Small words for hand walks. -/
import Derived.Test.YtjacpmmlkgcjjaaDoorWMore
namespace Go.Proofs.YtjacpmmlkgcjjaaDoor.Given
open Go.RowKit Go.Proofs.YtjacpmmlkgcjjaaDoorW.PrintWords
theorem lit_reads (W : World) (e : TypeId) (xs : List Int) (h : xs.length ≤ 9223372036854775807) : Kd.C (Kd.int .i64) (W.alloc (.cells (nums .i64 xs).toArray e)) (some ⟨W.heap.size, 0, none⟩) xs.length xs :=
  Kd.C_of_reads (d := (0 : Int)) (h1 := fun _ => rfl) (own_reads' (own_lit W 0 e .i64 xs (Nat.zero_le _) h))
theorem block_step {w W w2 : World} {b : Nat} (hbl : b < w.heap.size) (h : Below w.heap.size w W) (hb : Below W.heap.size W w2) (e : W.heap[b]? = w.heap[b]?) : w2.heap[b]? = w.heap[b]? :=
  (hb.block b (Nat.lt_of_lt_of_le hbl h.size)).trans e
end Go.Proofs.YtjacpmmlkgcjjaaDoor.Given
