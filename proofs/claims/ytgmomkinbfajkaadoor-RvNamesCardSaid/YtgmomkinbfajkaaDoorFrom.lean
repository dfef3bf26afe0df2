/-
  What stands from a world on, under growth.
-/
import Derived.Test.YtgmomkinbfajkaaDoorMem
import Derived.Test.YtgmomkinbfajkaaDoorBytes
import Derived.Test.YtgmomkinbfajkaaDoorNext
import Derived.Test.YtgmomkinbfajkaaDoorBase
set_option linter.unusedSimpArgs false
set_option linter.unusedVariables false
namespace Go.Proofs.YtgmomkinbfajkaaDoor
open Go.RowKit

/-- What is told of each world that has grown out of w. -/
def From (w : World) (F : World → Prop) : Prop := ∀ W, Below w.heap.size w W → F W
section
variable {w w' : World} {F G : World → Prop}
theorem From.now (h : From w F) : F w := h w (Below.refl _ _)
theorem From.at (h : From w F) {W : World} (hb : Below w.heap.size w W) : F W := h W hb
theorem From.next (h : From w F) (hB : Below w.heap.size w w') : From w' F := fun W k => h W (below_then hB k (Nat.le_refl _))
theorem From.and (h : From w F) (g : From w G) : From w (fun W => F W ∧ G W) := fun W k => ⟨h W k, g W k⟩
theorem From.mono (h : From w F) (g : ∀ W, F W → G W) : From w G := fun W k => g W (h W k)
theorem From.below {B : Nat} {w0 : World} (h : Below B w0 w) (hB : B ≤ w0.heap.size) : From w (fun W => Below B w0 W) := fun _ k => below_then h k hB
theorem From.blk {g : Nat} {t : TypeId} {cs : Array Value} (h : Blk w g t cs) : From w (fun W => Blk W g t cs) := fun _ k => h.next k rfl
theorem From.nats {k : IntKind} {M : Nat} {A : Option Addr} {l : List Nat} (h : Nats k M w w.heap.size A l) : From w (fun W => Nats k M W W.heap.size A l) := fun _ hB => (h.below hB).more hB.size
theorem range_frm {S : List Nat} {g o : Nat} {l : List Value} (h : w.rangeAt g o l) (hf : Frm S w w') (hg : g < w.heap.size) (hS : g ∉ S) : w'.rangeAt g o l := fun j v hv => by
  rw [← h j v hv]
  exact World.cell?_of_block (hf.block g hg hS)
end
theorem range_below {w w' : World} {B g o : Nat} {l : List Value} (h : w.rangeAt g o l) (hg : g < B) (hb : Below B w w') : w'.rangeAt g o l := fun j v hv => (hb.cell (p := ⟨g, o + j, none⟩) hg).trans (h j v hv)
end Go.Proofs.YtgmomkinbfajkaaDoor
