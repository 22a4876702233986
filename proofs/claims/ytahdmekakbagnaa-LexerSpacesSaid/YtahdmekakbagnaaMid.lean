/- What holds between a law's steps: the tape, and that what was there is as it was. -/
import Derived.Test.YtahdmekakbagnaaTape
namespace Go.Proofs.Ytahdmekakbagnaa
open Go.RowKit

/-- What holds between the law's steps. -/
structure Mid (w0 w : World) : Prop where
  tape : TapeOk w0.heap.size w w0.heap.size
  below : Below w0.heap.size w0 w

theorem Mid.trans {w0 w w' : World} (h : Mid w0 w) (hb : Below w.heap.size w w') : Mid w0 w' :=
  ⟨h.tape.below hb, h.below.trans (hb.mono h.below.size)⟩
theorem Mid.drewN {w0 w : World} (h : Mid w0 w) (n : Nat) : Mid w0 (w.drewN n) := ⟨h.tape.drewN n, h.below.trans ⟨rfl, rfl, rfl, Nat.le_refl _, fun _ _ => rfl⟩⟩
theorem Mid.alloc {w0 w : World} (h : Mid w0 w) (o : Obj) : Mid w0 (w.alloc o) := ⟨h.tape.alloc o, h.below.alloc h.below.size o⟩
theorem Mid.next {w0 w w' : World} (h : Mid w0 w) (ht : TapeOk w0.heap.size w' w0.heap.size) (hb : But w0.heap.size w w') : Mid w0 w' :=
  ⟨ht, h.below.trans (hb.toBelow (Nat.le_refl _) h.below.size)⟩

end Go.Proofs.Ytahdmekakbagnaa
