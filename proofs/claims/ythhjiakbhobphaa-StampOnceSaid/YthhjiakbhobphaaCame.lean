/- A slice of messages that came in, opened: its cells, by three functions of the index. -/
import Derived.Test.YthhjiakbhobphaaLaw
import Derived.Deep.Slices
import Derived.Deep.Strs
namespace Go.Proofs.Ythhjiakbhobphaa
open Go.ChangeShapes Go.WideShapes Go.ChangeAt Go.RowKit Go.Deep

theorem Try.cells34 : Try.prog.cellsOf 34 = 3 := by kernel_rfl
theorem Try.cells3 : Try.prog.cellsOf 3 = 1 := by kernel_rfl
theorem Try.cells4 : Try.prog.cellsOf 4 = 1 := by kernel_rfl

/-- Message i lies at its place. -/
def CameAt (W : World) (b off i : Nat) (y : Int × Int × Bool) : Prop :=
  W.cell? ⟨b, off + i * 3, none⟩ = some (.int .i64 y.1) ∧ W.cell? ⟨b, off + i * 3 + 1, none⟩ = some (.int .i64 y.2.1) ∧ W.cell? ⟨b, off + i * 3 + 2, none⟩ = some (.bool y.2.2)

theorem came_cells {H : Type} {enc : TypeId × Value → H} {W : World} {sp : Nat → Bool} {hd : Bool} {m : Nat} {cs : List Value} {x : DataW H × List MemPlace}
    (h : DataW.trod enc Try.prog W 0 sp hd m 34 cs = some x) : ∃ y : Int × Int × Bool, cs = [.int .i64 y.1, .int .i64 y.2.1, .bool y.2.2] := by
  obtain ⟨y0, y1, y2, n, _, hl, h0, h1, h2⟩ := trod_struct3 Try.underlying34 h
  rw [Try.cells34] at hl
  obtain ⟨a, b, c, rfl⟩ : ∃ a b c, cs = [a, b, c] := by
    match cs, hl with
    | [a, b, c], _ => exact ⟨a, b, c, rfl⟩
  rw [Try.cells3] at h0 h1
  rw [Try.cells4] at h2
  obtain ⟨t, k0, _, _⟩ := DataW.trod_int Try.underlying3 h0
  obtain ⟨u, k1, _, _⟩ := DataW.trod_int Try.underlying3 h1
  obtain ⟨f, k2, _⟩ := DataW.trod_bool Try.underlying4 h2
  simp at k0 k1 k2
  exact ⟨(t, u, f), by rw [k0, k1, k2]⟩

theorem open_came {H : Type} {enc : TypeId × Value → H} {W : World} {v : Value} {d : DataW H} {p : List MemPlace} (hv : ∃ a len cap, v = .slice a len cap)
    (h : DataW.Trod enc Try.prog W 0 (fun _ => true) true 31 v d p) :
    ∃ (A : Option Addr) (n c : Nat) (f : Nat → Int × Int × Bool), v = .slice A n c ∧ n ≤ maxLen ∧ (0 < n → ∃ b off, A = some ⟨b, off, none⟩ ∧ b < W.heap.size ∧ ∀ i, i < n → CameAt W b off i (f i)) := by
  obtain ⟨a0, len, cap, rfl⟩ := hv
  obtain ⟨fuel, hf⟩ := h
  rcases open_slice Try.underlying31 hf with ⟨hcs, _⟩ | ⟨a, len', cap', m, n', D, Pl, hcs, _, hl, hm, hmm, _, hi⟩
  · simp [Value.cells] at hcs
    obtain ⟨rfl, rfl, rfl⟩ := hcs
    exact ⟨none, 0, 0, fun _ => (0, 0, false), rfl, by simp [maxLen], fun h => absurd h (by omega)⟩
  · simp [Value.cells] at hcs
    obtain ⟨rfl, rfl, rfl⟩ := hcs
    simp only [if_pos] at hmm
    subst hmm
    obtain ⟨b, off, spot⟩ := a
    have hi2 : ∀ i, i < len → spot = none ∧ ∃ y : Int × Int × Bool, CameAt W b off i y := by
      intro i hlt
      obtain ⟨cs', hc, ht⟩ := hi i (by omega)
      rw [Try.cells34] at hc
      obtain ⟨y, rfl⟩ := came_cells ht
      obtain ⟨_, _, hat⟩ := World.cells?_some hc
      have g0 := hat 0 (by omega)
      have g1 := hat 1 (by omega)
      have g2 := hat 2 (by omega)
      have hs : spot = none ∨ 0 < i := by
        rcases Nat.eq_zero_or_pos i with rfl | hp
        · left
          simpa [Addr.add] using World.cell?_spot g0
        · exact .inr hp
      have hs0 : spot = none := by
        obtain ⟨cs0, hc0, ht0⟩ := hi 0 (by omega)
        rw [Try.cells34] at hc0
        obtain ⟨y0, rfl⟩ := came_cells ht0
        obtain ⟨_, _, hat0⟩ := World.cells?_some hc0
        simpa [Addr.add] using World.cell?_spot (hat0 0 (by omega))
      subst hs0
      refine ⟨rfl, y, ?_, ?_, ?_⟩
      · rcases Nat.eq_zero_or_pos i with rfl | hp
        · simpa [Addr.add] using g0
        · have : ¬ i * 3 = 0 := by omega
          simpa [Addr.add, this] using g0
      · rcases Nat.eq_zero_or_pos i with rfl | hp
        · simpa [Addr.add] using g1
        · have : ¬ i * 3 = 0 := by omega
          simpa [Addr.add, this] using g1
      · rcases Nat.eq_zero_or_pos i with rfl | hp
        · simpa [Addr.add] using g2
        · have : ¬ i * 3 = 0 := by omega
          simpa [Addr.add, this] using g2
    obtain ⟨f, hf'⟩ := Classical.axiomOfChoice (r := fun (i : Nat) (y : Int × Int × Bool) => i < len → CameAt W b off i y) (fun i => by
      by_cases hlt : i < len
      · obtain ⟨_, y, hy⟩ := hi2 i hlt
        exact ⟨y, fun _ => hy⟩
      · exact ⟨(0, 0, false), fun h => absurd h hlt⟩)
    refine ⟨_, len, _, f, rfl, by omega, fun hp => ?_⟩
    obtain ⟨rfl, y, hy⟩ := hi2 0 hp
    exact ⟨b, off, rfl, World.block_lt_of_cell? _ _ hy.1, fun i hlt => hf' i hlt⟩
end Go.Proofs.Ythhjiakbhobphaa
