/- What came in, opened: bytes, byte strings, nets, calls: each as plain lists. -/
import Derived.Test.YtiognapakadggaaLaw
import Derived.Test.YtiognapakadggaaNAllW
import Derived.Deep.Slices
import Derived.Lib.SmallJoins
namespace Go.Proofs.Ytiognapakadggaa
open Go.ChangeShapes Go.WideShapes Go.ChangeAt Go.RowKit Go.Deep

theorem Try.cells3 : Try.prog.cellsOf 3 = 1 := by kernel_rfl
theorem Try.cells4 : Try.prog.cellsOf 4 = 1 := by kernel_rfl
theorem Try.cells5 : Try.prog.cellsOf 5 = 1 := by kernel_rfl
theorem Try.cells24 : Try.prog.cellsOf 24 = 1 := by kernel_rfl
theorem Try.cells27 : Try.prog.cellsOf 27 = 1 := by kernel_rfl
theorem Try.cells31 : Try.prog.cellsOf 31 = 4 := by kernel_rfl
theorem Try.cells41 : Try.prog.cellsOf 41 = 7 := by kernel_rfl

section
variable {H : Type} {enc : TypeId × Value → H} {W : World}

/-- A slice of elements of size cells, each of which reads as a y of which R tells: as a list. -/
theorem open_rows {α : Type} (z : α) (R : Nat → Nat → α → Prop) {t e : TypeId} {size fuel : Nat} {cs : List Value} {x : DataW H × List MemPlace} (ht : Try.prog.underlying t = some (.slice e)) (hsz : Try.prog.cellsOf e = size)
    (hel : ∀ (a : Addr) (cs' : List Value) (d : DataW H × List MemPlace) (n : Nat), W.cells? 0 a size = some cs' → DataW.trod enc Try.prog W 0 (fun _ => true) true n e cs' = some d → a.spot = none ∧ ∃ y, R a.block a.off y)
    (h : DataW.trod enc Try.prog W 0 (fun _ => true) true fuel t cs = some x) :
    ∃ (A : Option Addr) (c : Nat) (ys : List α), cs = [.slice A ys.length c] ∧ ys.length ≤ maxLen ∧ (0 < ys.length → ∃ g o, A = some ⟨g, o, none⟩ ∧ ∀ (i : Nat) (y : α), ys[i]? = some y → R g (o + i * size) y) := by
  rcases open_slice ht h with ⟨hcs, _⟩ | ⟨a, len, cap, m, n, D, Pl, hcs, _, hl, hm, hmm, _, hi⟩
  · exact ⟨none, 0, [], hcs, by simp [maxLen], fun h => absurd h (by simp)⟩
  · simp only [if_true] at hmm
    subst hmm
    rw [hsz] at hi
    obtain ⟨b, off, spot⟩ := a
    have hi2 : ∀ i, i < len → spot = none ∧ ∃ y, R b (off + i * size) y := by
      intro i hlt
      obtain ⟨cs0, hc0, ht0⟩ := hi 0 (by omega)
      obtain ⟨hs0, _⟩ := hel _ _ _ _ hc0 ht0
      have hs : spot = none := by simpa [Addr.add] using hs0
      subst hs
      obtain ⟨cs', hc, ht⟩ := hi i (by omega)
      obtain ⟨_, y, hy⟩ := hel _ _ _ _ hc ht
      refine ⟨rfl, y, ?_⟩
      rcases Nat.eq_zero_or_pos (i * size) with h0 | hp
      · simpa [Addr.add, h0] using hy
      · have : ¬ i * size = 0 := by omega
        simpa [Addr.add, this] using hy
    haveI : Inhabited α := ⟨z⟩
    obtain ⟨f, hf⟩ := choose_lt (p := fun i y => R b (off + i * size) y) (fun i hi => (hi2 i hi).2)
    refine ⟨some ⟨b, off, spot⟩, _, (List.range len).map f, by simpa using hcs, by simp; omega, fun hp => ?_⟩
    simp only [List.length_map, List.length_range] at hp
    obtain ⟨rfl, _⟩ := hi2 0 hp
    refine ⟨b, off, rfl, fun i y hy => ?_⟩
    simp only [List.getElem?_map, Option.map_eq_some_iff] at hy
    obtain ⟨j, hj, rfl⟩ := hy
    obtain ⟨hj1, rfl⟩ := List.getElem?_eq_some_iff.1 hj
    simp only [List.length_range] at hj1
    simpa using hf i hj1

theorem cell_zero {a : Addr} {n : Nat} {cs : List Value} (h : W.cells? 0 a n = some cs) {v : Value} (hp : 0 < n) (hv : cs[0]? = some v) : a.spot = none ∧ W.cell? ⟨a.block, a.off, none⟩ = some v := by
  obtain ⟨_, _, hat⟩ := World.cells?_some h
  have g := (hat 0 hp).trans hv
  obtain ⟨b, o, s⟩ := a
  have hs : s = none := by simpa [Addr.add] using World.cell?_spot g
  subst hs
  exact ⟨rfl, by simpa [Addr.add] using g⟩
theorem cell_more {a : Addr} {n : Nat} {cs : List Value} (h : W.cells? 0 a n = some cs) {i : Nat} {v : Value} (hi : i < n) (hp : 0 < i) (hv : cs[i]? = some v) : W.cell? ⟨a.block, a.off + i, none⟩ = some v := by
  obtain ⟨_, _, hat⟩ := World.cells?_some h
  have g := (hat i hi).trans hv
  have : ¬ i = 0 := by omega
  simpa [Addr.add, this] using g

theorem open_bytes {fuel : Nat} {cs : List Value} {x : DataW H × List MemPlace} (h : DataW.trod enc Try.prog W 0 (fun _ => true) true fuel 27 cs = some x) :
    ∃ (v : Value) (b : List UInt8), cs = [v] ∧ BytesAt W v b ∧ b.length ≤ maxLen := by
  obtain ⟨A, c, ys, rfl, hl, hR⟩ := open_rows (α := UInt8) 0 (fun g o y => W.cell? ⟨g, o, none⟩ = some (.int .u8 (y.toNat : Int))) Try.underlying27 Try.cells5 (fun a cs' d n hc ht => by
    obtain ⟨z, rfl, _, hw⟩ := DataW.trod_int Try.underlying5 ht
    obtain ⟨hs, hcell⟩ := cell_zero hc (by decide) (v := .int .u8 z) rfl
    refine ⟨hs, UInt8.ofNat z.toNat, ?_⟩
    rw [hcell]
    have hz : 0 ≤ z ∧ z ≤ 255 := by simpa [Lit.wf, IntKind.min, IntKind.max, IntKind.signed, IntKind.bits] using hw
    have hn : (UInt8.ofNat z.toNat).toNat = z.toNat := by
      rw [UInt8.toNat_ofNat']
      omega
    rw [hn]
    congr 2
    omega) h
  exact ⟨_, ys, rfl, ⟨A, c, rfl, fun hp => by
    obtain ⟨g, o, rfl, hi⟩ := hR hp
    exact ⟨g, o, rfl, fun j y hy => by simpa using hi j y hy⟩⟩, hl⟩

theorem open_ls {fuel : Nat} {cs : List Value} {x : DataW H × List MemPlace} (h : DataW.trod enc Try.prog W 0 (fun _ => true) true fuel 22 cs = some x) :
    ∃ (v : Value) (ls : List (List UInt8)), cs = [v] ∧ LsAt W v ls ∧ ls.length ≤ maxLen := by
  obtain ⟨A, c, ys, rfl, hl, hR⟩ := open_rows (α := List UInt8) [] (fun g o y => ∃ vb, W.cell? ⟨g, o, none⟩ = some vb ∧ BytesAt W vb y) Try.underlying22 Try.cells27 (fun a cs' d n hc ht => by
    obtain ⟨v, b, rfl, hb, _⟩ := open_bytes ht
    obtain ⟨hs, hcell⟩ := cell_zero hc (by decide) (v := v) rfl
    exact ⟨hs, b, v, hcell, hb⟩) h
  exact ⟨_, ys, rfl, ⟨A, c, rfl, fun hp => by
    obtain ⟨g, o, rfl, hi⟩ := hR hp
    exact ⟨g, o, rfl, fun j y hy => by simpa using hi j y hy⟩⟩, hl⟩

theorem open_fl {n : Nat} {a : Addr} {cs : List Value} {x : DataW H × List MemPlace} (hc : W.cells? 0 a 4 = some cs) (h : DataW.trod enc Try.prog W 0 (fun _ => true) true n 31 cs = some x) : a.spot = none ∧ ∃ f : Fl, FlAt W a.block a.off f := by
  obtain ⟨y0, y1, y2, y3, m, _, hl, h0, h1, h2, h3⟩ := Go.Joins.trod_struct4 Try.underlying31 h
  rw [Try.cells31] at hl
  obtain ⟨c0, c1, c2, c3, rfl⟩ : ∃ c0 c1 c2 c3, cs = [c0, c1, c2, c3] := by
    match cs, hl with
    | [c0, c1, c2, c3], _ => exact ⟨c0, c1, c2, c3, rfl⟩
  rw [Try.cells3] at h0 h1
  rw [Try.cells27] at h2
  rw [Try.cells4] at h3
  obtain ⟨fr, k0, _, _⟩ := DataW.trod_int Try.underlying3 h0
  obtain ⟨tt, k1, _, _⟩ := DataW.trod_int Try.underlying3 h1
  obtain ⟨vb, b, k2, hb, _⟩ := open_bytes h2
  obtain ⟨bad, k3, _⟩ := DataW.trod_bool Try.underlying4 h3
  simp at k0 k1 k2 k3
  subst k0 k1 k2 k3
  obtain ⟨hs, hcell⟩ := cell_zero hc (by decide) (v := .int .i64 fr) rfl
  exact ⟨hs, ⟨fr, tt, b, bad⟩, c2, hcell, cell_more hc (by decide) (by decide) rfl, cell_more hc (by decide) (by decide) rfl, cell_more hc (by decide) (by decide) rfl, hb⟩

theorem open_fls {fuel : Nat} {cs : List Value} {x : DataW H × List MemPlace} (h : DataW.trod enc Try.prog W 0 (fun _ => true) true fuel 24 cs = some x) :
    ∃ (v : Value) (fs : List Fl), cs = [v] ∧ NetAt W v fs ∧ fs.length ≤ maxLen := by
  obtain ⟨A, c, ys, rfl, hl, hR⟩ := open_rows (α := Fl) ⟨0, 0, [], false⟩ (FlAt W) Try.underlying24 Try.cells31 (fun a cs' d n hc ht => open_fl hc ht) h
  exact ⟨_, ys, rfl, ⟨A, c, rfl, fun hp => by
    obtain ⟨g, o, rfl, hi⟩ := hR hp
    exact ⟨g, o, rfl, hi⟩⟩, hl⟩

/-- A net that came in. -/
theorem open_net {r : Reach} {b0 : Nat} {v : Value} {d : DataW H} {p : List MemPlace} (hv : Value.okWide Try.prog W r b0 26 v) (h : DataW.Trod enc Try.prog W 0 (fun _ => true) true 26 v d p) :
    ∃ (u : Value) (fs : List Fl), v = .agg #[u] ∧ NetAt W u fs ∧ fs.length ≤ maxLen := by
  obtain ⟨cs, rfl, hsz⟩ := okWide_struct Try.underlying26 hv
  obtain ⟨fuel, hf⟩ := h
  obtain ⟨xs, n, _, _, hl, hlen, hi⟩ := DataW.trod_struct Try.underlying26 hf
  match xs, hlen with
  | [y], _ =>
    have hc : Try.prog.cellsOf 26 = 1 := by kernel_rfl
    rw [hc] at hsz
    obtain ⟨c0, rfl⟩ : ∃ c0, cs = #[c0] := by
      obtain ⟨l⟩ := cs
      match l, hsz with
      | [c0], _ => exact ⟨c0, rfl⟩
    have h0 : DataW.trod enc Try.prog W 0 (fun _ => true) true n 24 (((Value.agg #[c0]).cells.toList.drop 0).take (Try.prog.cellsOf 24)) = some y := hi 0 _ rfl
    rw [Try.cells24] at h0
    obtain ⟨u, fs, hu, hN, hle⟩ := open_fls h0
    simp [Value.cells] at hu
    exact ⟨u, fs, by rw [hu], hN, hle⟩
end
end Go.Proofs.Ytiognapakadggaa
