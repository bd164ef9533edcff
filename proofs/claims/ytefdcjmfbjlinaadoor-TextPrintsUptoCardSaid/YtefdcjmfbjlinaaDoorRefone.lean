/- The document's own token at a place: the walk. -/
import Derived.Test.YtefdcjmfbjlinaaDoorLexer
import Derived.Deep.LoopGhost
import Derived.IntWalk
namespace Go.Proofs.YtefdcjmfbjlinaaDoor.Sc
open Go.RowKit Go.Shelf

/-- What lies in memory: the result, and the token that is made. -/
structure Two (w : World) (B a : Nat) (kd : Int) (nu : Int) (W : World) : Prop where
  keeps : Keeps [] w W
  r : W.heap[B]? = some (.cells #[.int .i64 0, .int .i64 0, .string ⟨#[]⟩, .int .i64 0] 69 (0, 0))
  x : W.heap[B + 1]? = some (.cells #[.int .i64 kd, .int .i64 a, .string ⟨#[]⟩, .int .i64 nu] 69 (0, 0))

theorem Two.drew {w W : World} {B a : Nat} {kd nu : Int} (h : Two w B a kd nu W) : Two w B a kd nu W.drew := ⟨h.keeps.drew, h.r, h.x⟩
theorem Two.kept {w W W' : World} {B a : Nat} {kd nu : Int} (h : Two w B a kd nu W) (k : Keeps [] W W') : Two w B a kd nu W' := ⟨h.keeps.trans k, k.blk h.r (by simp), k.blk h.x (by simp)⟩
end Go.Proofs.YtefdcjmfbjlinaaDoor.Sc
