/- A string out of bytes; bytes out of a constant; two strings of bytes held against each other. -/
import Derived.Test.YtiognapakadggaaTurn
import Derived.Laws.BytesString
import Derived.Laws.IdiomStrings
import Derived.Lib.SlBytesConst
namespace Go.Proofs.Ytiognapakadggaa
open Go.RowKit

/-- The string that bytes are. -/
def strOf (b : List UInt8) : ByteArray := ⟨b.toArray⟩

theorem conv_bytes {w : World} {A : Option Addr} {b : List UInt8} {c : Nat} (h : BytesAt w (.slice A b.length c) b) : (convert 27 9 (.slice A b.length c)).run Try.prog w = .ok (.string (strOf b)) w := by
  obtain ⟨A', c', hv, hc⟩ := h
  simp only [Value.slice.injEq, true_and] at hv
  obtain ⟨rfl, rfl⟩ := hv
  by_cases hp : 0 < b.length
  · obtain ⟨g, o, rfl, hcell⟩ := hc hp
    exact run_convert_bytes_back w 27 9 5 ⟨g, o, none⟩ c b Try.underlying27 Try.underlying5 Try.underlying9 (fun j hj => by
      rw [Go.WideShapes.add_plain]
      exact hcell j _ (List.getElem?_eq_getElem hj))
  · obtain rfl : b = [] := List.eq_nil_of_length_eq_zero (by omega)
    rw [run_convert_bytes_string w 27 9 5 _ _ c Try.underlying27 Try.underlying5 Try.underlying9]
    cases A <;> simp [Conv.bytesToString, loadCells]
    all_goals rfl

theorem bytes_const (w : World) (x : UInt8) (n : Int) (hx : n = (x.toNat : Int)) : BytesAt (w.alloc (.cells #[.int .u8 n] 5 (1, 2))) (.slice (some ⟨w.heap.size, 0, none⟩) 1 1) [x] := by
  refine ⟨_, 1, rfl, fun _ => ⟨w.heap.size, 0, rfl, fun j y hj => ?_⟩⟩
  rw [Nat.zero_add, World.cell?_alloc_mark]
  match j, hj with
  | 0, hj => simp at hj; subst hj; simp [hx]

theorem netNil (w : World) : NetAt w (.slice none 0 0) [] := ⟨none, 0, rfl, fun h => absurd h (by simp)⟩

def fA : Fl := ⟨1, 2, [97], false⟩
def fB : Fl := ⟨1, 2, [98], false⟩
def fC : Fl := ⟨1, 2, [99], false⟩
theorem small_abc (fs : List Fl) (h : ∀ f ∈ fs, f = fA ∨ f = fB ∨ f = fC ∨ f = turnF fC 0 (99 ^^^ 1)) : ∀ f ∈ fs, f.b.length ≤ 1000000 := by
  intro f hf
  rcases h f hf with rfl | rfl | rfl | rfl <;> simp [fA, fB, fC, turnF]
end Go.Proofs.Ytiognapakadggaa
