/- Calls that came in, opened: one, and a slice of them. -/
import Derived.Test.YtiognapakadggaaCame
import Derived.Test.YtiognapakadggaaRow
namespace Go.Proofs.Ytiognapakadggaa
open Go.ChangeShapes Go.WideShapes Go.ChangeAt Go.RowKit Go.Deep

/-- A call: its kind, its numbers, its byte, its bytes. -/
structure Op1 where
  kind : Int
  i : Int
  at1 : Int
  fr : Int
  tt : Int
  by1 : UInt8
  b : List UInt8

/-- The numbers that say which piece, and which byte, are ints. -/
def Op1.ok (o : Op1) : Prop := o.i ≤ 9223372036854775807 ∧ o.at1 ≤ 9223372036854775807 ∧ o.b.length ≤ maxLen

/-- In w the seven cells at g, a read as the call o. -/
def OpAt (w : World) (g a : Nat) (o : Op1) : Prop :=
  ∃ vb, w.cell? ⟨g, a, none⟩ = some (.int .i64 o.kind) ∧ w.cell? ⟨g, a + 1, none⟩ = some (.int .i64 o.i) ∧ w.cell? ⟨g, a + 2, none⟩ = some (.int .i64 o.at1) ∧ w.cell? ⟨g, a + 3, none⟩ = some (.int .i64 o.fr) ∧
    w.cell? ⟨g, a + 4, none⟩ = some (.int .i64 o.tt) ∧ w.cell? ⟨g, a + 5, none⟩ = some (.int .u8 (o.by1.toNat : Int)) ∧ w.cell? ⟨g, a + 6, none⟩ = some vb ∧ BytesAt w vb o.b

section
variable {H : Type} {enc : TypeId × Value → H} {W : World}

theorem open_byte {n : Nat} {cs : List Value} {x : DataW H × List MemPlace} (h : DataW.trod enc Try.prog W 0 (fun _ => true) true n 5 cs = some x) : ∃ y : UInt8, cs = [.int .u8 (y.toNat : Int)] := by
  obtain ⟨z, rfl, _, hw⟩ := DataW.trod_int Try.underlying5 h
  have hz : 0 ≤ z ∧ z ≤ 255 := by simpa [Lit.wf, IntKind.min, IntKind.max, IntKind.signed, IntKind.bits] using hw
  have hn : (UInt8.ofNat z.toNat).toNat = z.toNat := by
    rw [UInt8.toNat_ofNat']
    omega
  refine ⟨UInt8.ofNat z.toNat, ?_⟩
  rw [hn]
  congr 2
  omega
theorem open_i64 {n : Nat} {cs : List Value} {x : DataW H × List MemPlace} (h : DataW.trod enc Try.prog W 0 (fun _ => true) true n 3 cs = some x) : ∃ z : Int, cs = [.int .i64 z] ∧ z ≤ 9223372036854775807 := by
  obtain ⟨z, rfl, _, hw⟩ := DataW.trod_int Try.underlying3 h
  have hz : -9223372036854775808 ≤ z ∧ z ≤ 9223372036854775807 := by simpa [Lit.wf, IntKind.min, IntKind.max, IntKind.signed, IntKind.bits] using hw
  exact ⟨z, rfl, hz.2⟩

/-- The seven cells of a call. -/
theorem op_cells {n : Nat} {cs : List Value} {x : DataW H × List MemPlace} (h : DataW.trod enc Try.prog W 0 (fun _ => true) true n 41 cs = some x) :
    ∃ (o : Op1) (vb : Value), cs = [.int .i64 o.kind, .int .i64 o.i, .int .i64 o.at1, .int .i64 o.fr, .int .i64 o.tt, .int .u8 (o.by1.toNat : Int), vb] ∧ BytesAt W vb o.b ∧ o.ok := by
  obtain ⟨xs, m, _, _, hl, hlen, hi⟩ := DataW.trod_struct Try.underlying41 h
  rw [Try.cells41] at hl
  obtain ⟨c0, c1, c2, c3, c4, c5, c6, rfl⟩ : ∃ c0 c1 c2 c3 c4 c5 c6, cs = [c0, c1, c2, c3, c4, c5, c6] := by
    match cs, hl with
    | [c0, c1, c2, c3, c4, c5, c6], _ => exact ⟨c0, c1, c2, c3, c4, c5, c6, rfl⟩
  match xs, hlen with
  | [y0, y1, y2, y3, y4, y5, y6], _ =>
    have h0 : DataW.trod enc Try.prog W 0 (fun _ => true) true m 3 (([c0, c1, c2, c3, c4, c5, c6].drop 0).take (Try.prog.cellsOf 3)) = some y0 := hi 0 _ rfl
    have h1 : DataW.trod enc Try.prog W 0 (fun _ => true) true m 3 (([c0, c1, c2, c3, c4, c5, c6].drop 1).take (Try.prog.cellsOf 3)) = some y1 := hi 1 _ rfl
    have h2 : DataW.trod enc Try.prog W 0 (fun _ => true) true m 3 (([c0, c1, c2, c3, c4, c5, c6].drop 2).take (Try.prog.cellsOf 3)) = some y2 := hi 2 _ rfl
    have h3 : DataW.trod enc Try.prog W 0 (fun _ => true) true m 3 (([c0, c1, c2, c3, c4, c5, c6].drop 3).take (Try.prog.cellsOf 3)) = some y3 := hi 3 _ rfl
    have h4 : DataW.trod enc Try.prog W 0 (fun _ => true) true m 3 (([c0, c1, c2, c3, c4, c5, c6].drop 4).take (Try.prog.cellsOf 3)) = some y4 := hi 4 _ rfl
    have h5 : DataW.trod enc Try.prog W 0 (fun _ => true) true m 5 (([c0, c1, c2, c3, c4, c5, c6].drop 5).take (Try.prog.cellsOf 5)) = some y5 := hi 5 _ rfl
    have h6 : DataW.trod enc Try.prog W 0 (fun _ => true) true m 27 (([c0, c1, c2, c3, c4, c5, c6].drop 6).take (Try.prog.cellsOf 27)) = some y6 := hi 6 _ rfl
    rw [Try.cells3] at h0 h1 h2 h3 h4
    rw [Try.cells5] at h5
    rw [Try.cells27] at h6
    obtain ⟨z0, k0, _⟩ := open_i64 h0
    obtain ⟨z1, k1, b1⟩ := open_i64 h1
    obtain ⟨z2, k2, b2⟩ := open_i64 h2
    obtain ⟨z3, k3, _⟩ := open_i64 h3
    obtain ⟨z4, k4, _⟩ := open_i64 h4
    obtain ⟨z5, k5⟩ := open_byte h5
    obtain ⟨vb, b, k6, hb, hbl⟩ := open_bytes h6
    simp at k0 k1 k2 k3 k4 k5 k6
    subst k0 k1 k2 k3 k4 k5 k6
    exact ⟨⟨z0, z1, z2, z3, z4, z5, b⟩, c6, rfl, hb, b1, b2, hbl⟩

/-- A call that came in. -/
theorem open_op {r : Reach} {b0 : Nat} {v : Value} {d : DataW H} {p : List MemPlace} (hv : Value.okWide Try.prog W r b0 41 v) (h : DataW.Trod enc Try.prog W 0 (fun _ => true) true 41 v d p) :
    ∃ (o : Op1) (vb : Value), v = .agg #[.int .i64 o.kind, .int .i64 o.i, .int .i64 o.at1, .int .i64 o.fr, .int .i64 o.tt, .int .u8 (o.by1.toNat : Int), vb] ∧ BytesAt W vb o.b ∧ o.ok := by
  obtain ⟨cs, rfl, _⟩ := okWide_struct Try.underlying41 hv
  obtain ⟨fuel, hf⟩ := h
  obtain ⟨o, vb, hcs, hb, hok⟩ := op_cells hf
  refine ⟨o, vb, ?_, hb, hok⟩
  have : cs.toList = _ := hcs
  rw [← Array.toArray_toList (xs := cs), this]

def OpsAt (w : World) (v : Value) (os : List Op1) : Prop :=
  ∃ A c, v = .slice A os.length c ∧ (0 < os.length → ∃ g a, A = some ⟨g, a, none⟩ ∧ ∀ (i : Nat) (o : Op1), os[i]? = some o → OpAt w g (a + i * 7) o ∧ o.ok)

theorem open_ops {fuel : Nat} {cs : List Value} {x : DataW H × List MemPlace} (h : DataW.trod enc Try.prog W 0 (fun _ => true) true fuel 47 cs = some x) :
    ∃ (v : Value) (os : List Op1), cs = [v] ∧ OpsAt W v os ∧ os.length ≤ maxLen := by
  obtain ⟨A, c, ys, rfl, hl, hR⟩ := open_rows (α := Op1) ⟨0, 0, 0, 0, 0, 0, []⟩ (fun g a o => OpAt W g a o ∧ o.ok) Try.underlying47 Try.cells41 (fun a cs' d n hc ht => by
    obtain ⟨o, vb, rfl, hb, hok⟩ := op_cells ht
    obtain ⟨hs, hcell⟩ := cell_zero hc (by decide) (v := .int .i64 o.kind) rfl
    exact ⟨hs, o, ⟨vb, hcell, cell_more hc (by decide) (by decide) rfl, cell_more hc (by decide) (by decide) rfl, cell_more hc (by decide) (by decide) rfl, cell_more hc (by decide) (by decide) rfl, cell_more hc (by decide) (by decide) rfl, cell_more hc (by decide) (by decide) rfl, hb⟩, hok⟩) h
  exact ⟨_, ys, rfl, ⟨A, c, rfl, fun hp => by
    obtain ⟨g, o, rfl, hi⟩ := hR hp
    exact ⟨g, o, rfl, hi⟩⟩, hl⟩
end
end Go.Proofs.Ytiognapakadggaa
