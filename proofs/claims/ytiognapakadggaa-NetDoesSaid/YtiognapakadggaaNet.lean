/- The pieces on their way, as data; where bytes and pieces lie in memory; what keeps them. -/
import Derived.Test.YtiognapakadggaaMem
import Derived.Laws.AppendOwn
namespace Go.Proofs.Ytiognapakadggaa
open Go.RowKit

structure Fl where
  fr : Int
  to : Int
  b : List UInt8
  bad : Bool

/-- The cells of bytes. -/
def byteCells (b : List UInt8) : List Value := b.map fun x => Value.int .u8 (x.toNat : Int)

/-- In w the slice v reads as the bytes b. -/
def BytesAt (w : World) (v : Value) (b : List UInt8) : Prop :=
  ∃ A c, v = .slice A b.length c ∧ (0 < b.length → ∃ g o, A = some ⟨g, o, none⟩ ∧ ∀ j x, b[j]? = some x → w.cell? ⟨g, o + j, none⟩ = some (.int .u8 (x.toNat : Int)))

/-- In w the four cells at g, o read as the piece f. -/
def FlAt (w : World) (g o : Nat) (f : Fl) : Prop :=
  ∃ vb, w.cell? ⟨g, o, none⟩ = some (.int .i64 f.fr) ∧ w.cell? ⟨g, o + 1, none⟩ = some (.int .i64 f.to) ∧ w.cell? ⟨g, o + 2, none⟩ = some vb ∧ w.cell? ⟨g, o + 3, none⟩ = some (.bool f.bad) ∧ BytesAt w vb f.b

/-- In w the slice v reads as the pieces fs. -/
def NetAt (w : World) (v : Value) (fs : List Fl) : Prop :=
  ∃ A c, v = .slice A fs.length c ∧ (0 < fs.length → ∃ g o, A = some ⟨g, o, none⟩ ∧ ∀ i f, fs[i]? = some f → FlAt w g (o + i * 4) f)

theorem BytesAt.later {w w' : World} {v : Value} {b : List UInt8} (h : BytesAt w v b) (hb : Below w.heap.size w w') : BytesAt w' v b := by
  obtain ⟨A, c, rfl, h⟩ := h
  refine ⟨A, c, rfl, fun hp => ?_⟩
  obtain ⟨g, o, rfl, hc⟩ := h hp
  exact ⟨g, o, rfl, fun j x hj => cell_later hb (hc j x hj)⟩
theorem FlAt.later {w w' : World} {g o : Nat} {f : Fl} (h : FlAt w g o f) (hb : Below w.heap.size w w') : FlAt w' g o f := by
  obtain ⟨vb, h0, h1, h2, h3, h4⟩ := h
  exact ⟨vb, cell_later hb h0, cell_later hb h1, cell_later hb h2, cell_later hb h3, h4.later hb⟩
theorem NetAt.later {w w' : World} {v : Value} {fs : List Fl} (h : NetAt w v fs) (hb : Below w.heap.size w w') : NetAt w' v fs := by
  obtain ⟨A, c, rfl, h⟩ := h
  refine ⟨A, c, rfl, fun hp => ?_⟩
  obtain ⟨g, o, rfl, hc⟩ := h hp
  exact ⟨g, o, rfl, fun i f hi => (hc i f hi).later hb⟩
theorem BytesAt.of_blk {w : World} {g c : Nat} {b : List UInt8} {t : TypeId} (h : HasBlk w g t (byteCells b).toArray) : BytesAt w (.slice (some ⟨g, 0, none⟩) b.length c) b := by
  refine ⟨_, _, rfl, fun _ => ⟨g, 0, rfl, fun j x hj => ?_⟩⟩
  rw [Nat.zero_add, h.cell j]
  simp [byteCells, hj]
theorem byteCells_length (b : List UInt8) : (byteCells b).length = b.length := by simp [byteCells]
theorem byteCells_one (b : List UInt8) : ∀ v ∈ byteCells b, v.oneCell' = true := by
  intro v hv
  simp only [byteCells, List.mem_map] at hv
  obtain ⟨x, _, rfl⟩ := hv
  rfl
end Go.Proofs.Ytiognapakadggaa
