/- NetDoes, walked: whatever the net, whatever the call: the law answers true, and writes into new memory alone. -/
import Derived.Test.YtiognapakadggaaDoesA
namespace Go.Proofs.Ytiognapakadggaa
open Go.RowKit

/-- What stands in memory while the law goes on: the net, the call, the copy of the net. -/
structure Dz (w : World) (b0 b1 b7 : Nat) (fs : List Fl) (o : Op1) (bv : Value) (A A7 : Option Addr) (c c7 : Nat) (W : World) : Prop where
  nbox : HasBlk W b0 26 #[.slice A fs.length c]
  obox : HasBlk W b1 41 (ocells o bv)
  own : HasBlk W b7 26 #[.slice A7 fs.length c7]
  net : NetAt W (.slice A fs.length c) fs
  net7 : NetAt W (.slice A7 fs.length c7) fs
  by1 : BytesAt W bv o.b
  low : Below w.heap.size w W
  cap : fs.length ≤ c7
theorem Dz.later {w W W' : World} {b0 b1 b7 : Nat} {fs : List Fl} {o : Op1} {bv : Value} {A A7 : Option Addr} {c c7 : Nat} (h : Dz w b0 b1 b7 fs o bv A A7 c c7 W) (hb : Below W.heap.size W W') : Dz w b0 b1 b7 fs o bv A A7 c c7 W' :=
  ⟨h.nbox.later hb, h.obox.later hb, h.own.later hb, h.net.later hb, h.net7.later hb, h.by1.later hb, below_on h.low.size h.low hb, h.cap⟩

set_option maxRecDepth 100000 in
set_option maxHeartbeats 1000000 in
theorem ndoes_heavy (v bv : Value) (fs : List Fl) (o : Op1) (w : World) (h : NetAt w v fs) (hb : BytesAt w bv o.b) (hn : fs.length ≤ 9223372036854775807) (hl : lightB fs = false ∨ 2000 < o.b.length) :
    Calls Try.prog 5 #[.agg #[v], .agg #[.int .i64 o.kind, .int .i64 o.i, .int .i64 o.at1, .int .i64 o.fr, .int .i64 o.tt, .int .u8 (o.by1.toNat : Int), bv]] w (Yes w) := by
  obtain ⟨A, c, rfl⟩ := h.shape
  obtain ⟨bA, bc, rfl⟩ := hb.shape
  have HN := Lib.hid h
  have HL := Lib.hid hl
  clear h hl hb
  go_enter Try.func5, Try.ntmps5
  go_wp2_with fail
  refine (awake_any _).mono ?_
  rintro e w1 ⟨rfl, hb1⟩
  have x2 : Below w.heap.size w ((w.alloc (.cells #[.slice A fs.length c] 26)).alloc (.cells (ocells o (.slice bA o.b.length bc)) 41)) := ((Below.refl _ _).alloc (Nat.le_refl _) _).alloc (by simp) _
  have hB := ((HasBlk.fresh w 26 #[.slice A fs.length c]).past (.cells (ocells o (.slice bA o.b.length bc)) 41)).later hb1
  have hO := (HasBlk.fresh (w.alloc (.cells #[.slice A fs.length c] 26)) 41 (ocells o (.slice bA o.b.length bc))).later hb1
  simp only [World.size_alloc] at hO
  have n0 := hB.cell 0
  have o6 := hO.cell 6
  simp only [List.getElem?_toArray, List.getElem?_cons_zero, List.getElem?_cons_succ] at n0 o6
  have g1 : Below w.heap.size w w1 := below_on x2.size x2 hb1
  have HN1 := Lib.hid ((HN.out.later x2).later hb1)
  have HG := Lib.hid g1
  have HBO := Lib.hid hO
  clear hB hO g1 hb1 HN x2
  go_wp2_with fail
  refine (light_any _ fs _ HN1.out hn).mono ?_
  rintro e w2 ⟨rfl, hb2⟩
  have HG2 := Lib.hid (below_on HG.out.size HG.out hb2)
  have hO2 := HBO.out.later hb2
  have p6 := hO2.cell 6
  simp only [List.getElem?_toArray, List.getElem?_cons_zero, List.getElem?_cons_succ] at p6
  clear n0 o6 hO2 hb2
  cases hlt : lightB fs with
  | false =>
    go_wp2
    go_ret
    exact ⟨rfl, HG2.out⟩
  | true =>
    have hbl : (2000 : Int) < (o.b.length : Int) := by
      rcases HL.out with h | h
      · rw [hlt] at h; cases h
      · omega
    go_wp2
    go_ret
    exact ⟨rfl, HG2.out⟩

/-- A cell that holds a slice holds no byte. -/
theorem BytesAt.put_cell {w : World} {v : Value} {bs : List UInt8} {a : Addr} {A : Option Addr} {n c : Nat} (h : BytesAt w v bs) (hc : w.cell? a = some (.slice A n c)) (u : Value) : BytesAt (w.setCell a u) v bs := by
  obtain ⟨A', c', rfl, hb⟩ := h
  refine ⟨_, _, rfl, fun hp => ?_⟩
  obtain ⟨g, o, rfl, hcell⟩ := hb hp
  refine ⟨g, o, rfl, fun j x hj => ?_⟩
  have h1 := hcell j x hj
  refine (World.cell?_setCell_other w _ _ u (fun e => ?_)).trans h1
  first | rw [← e] at hc | rw [e] at hc
  rw [hc] at h1
  cases h1
theorem pcells_put (ps : List (Fl × Value)) (k : Nat) (f : Fl) (v v' : Value) (hp : ps[k]? = some (f, v)) : (ps.flatMap pcells).set (k * 4 + 2) v' = (ps.set k (f, v')).flatMap pcells := by
  have hk : k < ps.length := (List.getElem?_eq_some_iff.1 hp).1
  rw [← pcells_set4 ps k (f, v) (f, v') hp rfl rfl]
  have h0 := pflat ps k _ hp 0 (by omega)
  have h1 := pflat ps k _ hp 1 (by omega)
  have h3 := pflat ps k _ hp 3 (by omega)
  simp only [pcells, List.getElem?_cons_zero, List.getElem?_cons_succ, Nat.add_zero] at h0 h1 h3
  have hl : (ps.flatMap pcells).length = ps.length * 4 := pflat_length ps
  apply List.ext_getElem?
  intro j
  simp only [List.getElem?_set, List.length_set, hl]
  by_cases e3 : k * 4 + 3 = j
  · subst e3
    simp only [show ¬ k * 4 + 2 = k * 4 + 3 by omega, if_false, if_true]
    rw [if_pos (by omega)]
    exact h3
  · by_cases e2 : k * 4 + 2 = j
    · subst e2
      simp
    · by_cases e1 : k * 4 + 1 = j
      · subst e1
        simp only [show ¬ k * 4 + 2 = k * 4 + 1 by omega, show ¬ k * 4 + 3 = k * 4 + 1 by omega, if_false, if_true]
        rw [if_pos (by omega)]
        exact h1
      · by_cases e0 : k * 4 = j
        · subst e0
          simp only [show ¬ k * 4 + 2 = k * 4 by omega, show ¬ k * 4 + 3 = k * 4 by omega, show ¬ k * 4 + 1 = k * 4 by omega, if_false, if_true]
          rw [if_pos (by omega)]
          exact h0
        · simp only [e0, e1, e2, e3, if_false]
end Go.Proofs.Ytiognapakadggaa
