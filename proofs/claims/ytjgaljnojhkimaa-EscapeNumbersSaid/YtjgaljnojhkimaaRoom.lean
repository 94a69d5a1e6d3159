/- Room for a struct, behind an alloc. No condition. -/
import Derived.Test.YtjgaljnojhkimaaWalks
namespace Go.Proofs.Ytjgaljnojhkimaa
open Go.RowKit
@[go_sem] theorem there_alloc' {W : World} {b i n : Nat} (o : Obj) (h : W.there b i n) : (W.alloc o).there b i n = True := by
  simp only [eq_iff_iff, iff_true]
  exact World.there_alloc h o
@[go_sem] theorem cells_alloc {W : World} {g i n : Nat} (o : Obj) (h : g < W.heap.size) : cellsAt (W.alloc o) g i n = cellsAt W g i n := by
  unfold cellsAt
  simp only [World.cell?_alloc_lt W o (⟨g, _, none⟩ : Addr) h]
end Go.Proofs.Ytjgaljnojhkimaa
