/- Small words for memory: a block that is known whole; what keeps it; cells and marks behind a call that writes into new memory alone. -/
import Derived.Test.YtiognapakadggaaChecked
import Derived.WalkKit
import Derived.WalkLawsBesides
import Derived.WalkSpells
import Derived.Laws.OwnMore
import Derived.Deep.Draws
import Derived.Laws.Rows
import Derived.Lib.Hide
namespace Go.Proofs.Ytiognapakadggaa
open Go.RowKit

/-- Block b holds just the cells cs, of element type t, none of them frozen. -/
def HasBlk (w : World) (b : Nat) (t : TypeId) (cs : Array Value) : Prop := w.heap[b]? = some (.cells cs t (0, 0))

theorem HasBlk.lt {w : World} {b : Nat} {t : TypeId} {cs : Array Value} (h : HasBlk w b t cs) : b < w.heap.size := by
  unfold HasBlk at h
  exact (Array.getElem?_eq_some_iff.1 h).1
theorem HasBlk.cell {w : World} {b : Nat} {t : TypeId} {cs : Array Value} (h : HasBlk w b t cs) (i : Nat) : w.cell? ⟨b, i, none⟩ = cs[i]? := cell_of_row w b i cs t (0, 0) h
theorem HasBlk.free {w : World} {b : Nat} {t : TypeId} {cs : Array Value} (h : HasBlk w b t cs) (i : Nat) : w.frozen? ⟨b, i, none⟩ = false := by
  unfold HasBlk at h
  simp [World.frozen?, h]
theorem HasBlk.fresh (w : World) (t : TypeId) (cs : Array Value) : HasBlk (w.alloc (.cells cs t)) w.heap.size t cs := heap_alloc_new w _
theorem HasBlk.drawn {w : World} {b : Nat} {t : TypeId} {cs : Array Value} (h : HasBlk w b t cs) : HasBlk w.drew b t cs := h
theorem HasBlk.drawnN {w : World} {b : Nat} {t : TypeId} {cs : Array Value} (h : HasBlk w b t cs) (n : Nat) : HasBlk (w.drewN n) b t cs := h
theorem HasBlk.past {w : World} {b : Nat} {t : TypeId} {cs : Array Value} (h : HasBlk w b t cs) (o : Obj) : HasBlk (w.alloc o) b t cs := (Below.heap_alloc w o b h.lt).trans h
theorem HasBlk.put {w : World} {b : Nat} {t : TypeId} {cs : Array Value} (h : HasBlk w b t cs) (i : Nat) (u : Value) : HasBlk (w.setCell ⟨b, i, none⟩ u) b t (cs.setIfInBounds i u) := by
  unfold HasBlk at h ⊢
  simp [World.setCell, Array.getElem?_modify, h]
theorem HasBlk.off {w : World} {b : Nat} {t : TypeId} {cs : Array Value} (h : HasBlk w b t cs) {p : Addr} (hp : b ≠ p.block) (u : Value) : HasBlk (w.setCell p u) b t cs := (Below.heap_setCell w p u b hp).trans h
theorem HasBlk.later {w w' : World} {b : Nat} {t : TypeId} {cs : Array Value} (h : HasBlk w b t cs) (hb : Below w.heap.size w w') : HasBlk w' b t cs := (hb.block b h.lt).trans h

theorem drewN_below {B : Nat} {a w : World} (h : Below B a w) (n : Nat) : Below B a (w.drewN n) := ⟨h.os, h.tape, h.output, h.size, h.block⟩
theorem keep_drew {w : World} {p : Addr} {v : Value} (h : w.cell? p = some v) : w.drew.cell? p = some v := h
theorem keep_alloc {w : World} {o : Obj} {p : Addr} {v : Value} (h : w.cell? p = some v) : (w.alloc o).cell? p = some v :=
  (World.cell?_alloc_lt w o p (World.block_lt_of_cell? _ _ h)).trans h
theorem keep_set {w : World} {a p : Addr} {u v : Value} (hne : a.block ≠ p.block) (h : w.cell? p = some v) : (w.setCell a u).cell? p = some v :=
  (World.cell?_setCell_other w a p u (fun e => hne (by rw [e]))).trans h
theorem below_on {W w w1 : World} {B : Nat} (hB : B ≤ W.heap.size) (h : Below B w W) (hb : Below W.heap.size W w1) : Below B w w1 := h.trans (hb.mono hB)
end Go.Proofs.Ytiognapakadggaa
