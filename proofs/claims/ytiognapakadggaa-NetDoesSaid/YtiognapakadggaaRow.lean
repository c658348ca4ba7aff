/- Rows of pieces whose bytes lie anywhere: from a row of cells to a net, and back; nets that are parts of nets. -/
import Derived.Test.YtiognapakadggaaNAllW
namespace Go.Proofs.Ytiognapakadggaa
open Go.RowKit

/-- The four cells of a piece whose bytes are the slice p.2. -/
def pcells (p : Fl × Value) : List Value := [.int .i64 p.1.fr, .int .i64 p.1.to, p.2, .bool p.1.bad]

theorem pflat : ∀ (ps : List (Fl × Value)) (i : Nat) (p : Fl × Value), ps[i]? = some p → ∀ j, j < 4 → (ps.flatMap pcells)[i * 4 + j]? = (pcells p)[j]? := by
  intro ps
  induction ps with
  | nil => intro i p h; simp at h
  | cons q qs ih =>
    intro i p h j hj
    rw [List.flatMap_cons]
    cases i with
    | zero =>
      simp at h
      subst h
      rw [List.getElem?_append_left (by simp [pcells]; omega)]
      simp
    | succ i =>
      simp at h
      rw [List.getElem?_append_right (by simp [pcells]; omega)]
      have := ih i p h j hj
      rw [← this]
      congr 1
      simp [pcells]
      omega
theorem pflat_length (ps : List (Fl × Value)) : (ps.flatMap pcells).length = ps.length * 4 := by
  induction ps with
  | nil => rfl
  | cons q qs ih => rw [List.flatMap_cons, List.length_append, ih]; simp [pcells]; omega
theorem pflat_one {ps : List (Fl × Value)} {w : World} (h : ∀ p ∈ ps, BytesAt w p.2 p.1.b) : ∀ u ∈ ps.flatMap pcells, u.oneCell' = true := by
  intro u hu
  obtain ⟨p, hp, hu⟩ := List.mem_flatMap.1 hu
  obtain ⟨A, c, hv, _⟩ := h p hp
  simp only [pcells, List.mem_cons, List.not_mem_nil, or_false] at hu
  rcases hu with rfl | rfl | rfl | rfl
  · rfl
  · rfl
  · rw [hv]; rfl
  · rfl

/-- A row that the call owns reads as the net of its pieces. -/
theorem row_netAt {w : World} {base : Nat} {v : Value} {ps : List (Fl × Value)} (ho : w.ownsRow base 31 4 v ps.length (ps.flatMap pcells)) (hb : ∀ p ∈ ps, BytesAt w p.2 p.1.b) : NetAt w v (ps.map (·.1)) := by
  rcases ho.2 with ⟨rfl, h0⟩ | ⟨g, cap, cur, rfl, hbg, hg, hn, hm, hs, ht⟩
  · obtain rfl : ps = [] := List.eq_nil_of_length_eq_zero h0
    exact ⟨none, 0, rfl, fun h => absurd h (by simp)⟩
  · refine ⟨_, cap, by simp, fun hp => ⟨g, 0, rfl, fun i f hi => ?_⟩⟩
    simp only [List.getElem?_map, Option.map_eq_some_iff] at hi
    obtain ⟨p, hp1, rfl⟩ := hi
    have hlt : i < ps.length := (List.getElem?_eq_some_iff.1 hp1).1
    have hc : ∀ j, j < 4 → w.cell? ⟨g, i * 4 + j, none⟩ = (pcells p)[j]? := by
      intro j hj
      rw [ho.cellAt (i * 4 + j) (by omega), pflat ps i p hp1 j hj]
    rw [Nat.zero_add]
    exact ⟨_, hc 0 (by omega), hc 1 (by omega), hc 2 (by omega), hc 3 (by omega), hb p (List.mem_of_getElem? hp1)⟩

/-- A net as a row of cells that lies in memory. -/
theorem NetAt.row {w : World} {v : Value} {fs : List Fl} (h : NetAt w v fs) : ∃ (A : Option Addr) (c : Nat) (ps : List (Fl × Value)), v = .slice A fs.length c ∧ ps.map (·.1) = fs ∧ (∀ p ∈ ps, BytesAt w p.2 p.1.b) ∧
    (0 < fs.length → ∃ g o, A = some ⟨g, o, none⟩ ∧ ∀ j u, (ps.flatMap pcells)[j]? = some u → w.cell? ⟨g, o + j, none⟩ = some u) := by
  obtain ⟨A, c, rfl, hc⟩ := h
  rcases Nat.eq_zero_or_pos fs.length with h0 | hp
  · obtain rfl : fs = [] := List.eq_nil_of_length_eq_zero h0
    exact ⟨A, c, [], rfl, rfl, by simp, fun h => absurd h (by simp)⟩
  obtain ⟨g, o, rfl, hf⟩ := hc hp
  obtain ⟨V, hV⟩ := Classical.axiomOfChoice (r := fun (i : Nat) (vb : Value) => ∀ f, fs[i]? = some f → w.cell? ⟨g, o + i * 4, none⟩ = some (.int .i64 f.fr) ∧ w.cell? ⟨g, o + i * 4 + 1, none⟩ = some (.int .i64 f.to) ∧ w.cell? ⟨g, o + i * 4 + 2, none⟩ = some vb ∧ w.cell? ⟨g, o + i * 4 + 3, none⟩ = some (.bool f.bad) ∧ BytesAt w vb f.b) (fun i => by
    cases hi : fs[i]? with
    | none => exact ⟨.bool false, fun f h => by cases h⟩
    | some f =>
      obtain ⟨vb, h⟩ := hf i f hi
      exact ⟨vb, fun f' h' => by cases h'; exact h⟩)
  have hz : ∀ (i : Nat) (p : Fl × Value), (fs.zipIdx.map fun q => (q.1, V q.2))[i]? = some p → fs[i]? = some p.1 ∧ p.2 = V i := by
    intro i p hp
    simp only [List.getElem?_map, List.getElem?_zipIdx, Option.map_map, Option.map_eq_some_iff, Function.comp] at hp
    obtain ⟨f, h1, rfl⟩ := hp
    exact ⟨h1, by simp⟩
  refine ⟨_, c, fs.zipIdx.map fun q => (q.1, V q.2), rfl, ?_, ?_, fun _ => ⟨g, o, rfl, fun j u hu => ?_⟩⟩
  · rw [List.map_map]
    exact List.zipIdx_map_fst 0 fs
  · intro p hp
    obtain ⟨i, hi⟩ := List.getElem?_of_mem hp
    obtain ⟨h1, h2⟩ := hz i p hi
    rw [h2]
    exact (hV i _ h1).2.2.2.2
  · have hjl : j < fs.length * 4 := by
      have := (List.getElem?_eq_some_iff.1 hu).1
      rw [pflat_length] at this
      simpa using this
    have hl : j / 4 < (fs.zipIdx.map fun q => (q.1, V q.2)).length := by simp; omega
    obtain ⟨p, hp⟩ : ∃ p, (fs.zipIdx.map fun q => (q.1, V q.2))[j / 4]? = some p := ⟨_, List.getElem?_eq_getElem hl⟩
    obtain ⟨h1, h2⟩ := hz _ p hp
    obtain ⟨e0, e1, e2, e3, _⟩ := hV _ _ h1
    have hm : j % 4 < 4 := Nat.mod_lt _ (by omega)
    have hj : j = j / 4 * 4 + j % 4 := by omega
    rw [hj, pflat _ _ _ hp _ hm] at hu
    rw [hj]
    generalize j / 4 = i at *
    generalize j % 4 = r at *
    match r, hm with
    | 0, _ => simp only [pcells, List.getElem?_cons_zero, Option.some.injEq] at hu; subst hu; exact e0
    | 1, _ => simp only [pcells, List.getElem?_cons_zero, List.getElem?_cons_succ, Option.some.injEq] at hu; subst hu; exact e1
    | 2, _ => simp only [pcells, List.getElem?_cons_zero, List.getElem?_cons_succ, Option.some.injEq] at hu; subst hu; rw [h2]; exact e2
    | 3, _ => simp only [pcells, List.getElem?_cons_zero, List.getElem?_cons_succ, Option.some.injEq] at hu; subst hu; exact e3

/-- What a call that answers a net and an error says, of a net that may share its bytes. -/
def NetE (w : World) (fs : List Fl) (n : Int) (e : Ending) (w' : World) : Prop := ∃ v, e = .returned (.tuple #[.agg #[v], .int .i64 n]) ∧ NetAt w' v fs ∧ Below w.heap.size w w'

theorem NetE.of_err {w w' : World} {n : Int} {e : Ending} (h : ErrR w n e w') : NetE w [] n e w' := ⟨_, h.1, netNil _, h.2⟩
theorem NetE.of_net {w w' : World} {fs : List Fl} {e : Ending} (h : NetR w fs e w') : NetE w fs 0 e w' := by
  obtain ⟨v, h1, h2, h3⟩ := h
  exact ⟨v, h1, h2.netAt, h3⟩
theorem NetAt.shape {w : World} {v : Value} {fs : List Fl} (h : NetAt w v fs) : ∃ A c, v = .slice A fs.length c := by
  obtain ⟨A, c, h, _⟩ := h
  exact ⟨A, c, h⟩
theorem BytesAt.shape {w : World} {v : Value} {b : List UInt8} (h : BytesAt w v b) : ∃ A c, v = .slice A b.length c := by
  obtain ⟨A, c, h, _⟩ := h
  exact ⟨A, c, h⟩
end Go.Proofs.Ytiognapakadggaa
