/- The reference's Turn. -/
import Derived.Test.YtiognapakadggaaRefF
import Derived.Test.YtiognapakadggaaNOnlyA
namespace Go.Proofs.Ytiognapakadggaa
open Go.RowKit

set_option maxHeartbeats 1000000 in
theorem rturn_none (v : Value) (i a by_ : Int) (w : World) (h : NetAt w v []) : Calls Try.prog 21 #[.agg #[v], .int .i64 i, .int .i64 a, .int .u8 by_] w (NetE w [] 4) := by
  obtain ⟨A, c, rfl⟩ := h.shape
  clear h
  go_enter Try.func21, Try.ntmps21
  go_wp2
  refine bodyPost_ret (v := .tuple #[.agg #[.slice none 0 0], .int .i64 4]) (by simp [results, Try.results21, go_sem]) rfl ⟨_, rfl, netNil _, ?_⟩
  repeat (first | exact Below.refl _ _ | refine Below.setCell ?_ (by first | omega | (simp; done) | (simp; omega)) _ | refine Below.alloc ?_ (by first | omega | (simp; done) | (simp; omega)) _)

theorem pcells_set4 (ps : List (Fl × Value)) (k : Nat) (p q : Fl × Value) (hp : ps[k]? = some p) (h0 : q.1.fr = p.1.fr) (h1 : q.1.to = p.1.to) :
    ((((ps.flatMap pcells).set (k * 4) (.int .i64 p.1.fr)).set (k * 4 + 1) (.int .i64 p.1.to)).set (k * 4 + 2) q.2).set (k * 4 + 3) (.bool q.1.bad) = (ps.set k q).flatMap pcells := by
  have hk : k < ps.length := (List.getElem?_eq_some_iff.1 hp).1
  apply List.ext_getElem?
  intro j
  by_cases hj : j < ps.length * 4
  · have hi : j / 4 < ps.length := by omega
    have hm : j % 4 < 4 := Nat.mod_lt _ (by omega)
    have hjj : j = j / 4 * 4 + j % 4 := by omega
    have hl : (ps.flatMap pcells).length = ps.length * 4 := pflat_length ps
    obtain ⟨x, hx⟩ : ∃ x, ps[j / 4]? = some x := ⟨_, List.getElem?_eq_getElem hi⟩
    have hL := pflat ps (j / 4) x hx (j % 4) hm
    by_cases hik : j / 4 = k
    · have hR := pflat (ps.set k q) (j / 4) q (by rw [hik]; simp [hk]) (j % 4) hm
      rw [← hjj] at hR
      rw [hR]
      generalize j % 4 = r at *
      rw [hik] at hjj
      subst hjj
      match r, hm with
      | 0, _ => simp [hl, pcells, h0, hk]
      | 1, _ => simp [List.getElem?_set, hl, pcells, h1]; omega
      | 2, _ => simp [List.getElem?_set, hl, pcells]; omega
      | 3, _ => simp [List.getElem?_set, hl, pcells]; omega
    · have hR := pflat (ps.set k q) (j / 4) x (by rw [List.getElem?_set_ne (fun e => hik e.symm)]; exact hx) (j % 4) hm
      rw [← hjj] at hR hL
      rw [hR, ← hL, List.getElem?_set_ne (by omega), List.getElem?_set_ne (by omega), List.getElem?_set_ne (by omega), List.getElem?_set_ne (by omega)]
  · rw [List.getElem?_eq_none (by simp only [List.length_set, pflat_length]; omega), List.getElem?_eq_none (by rw [pflat_length, List.length_set]; omega)]

theorem BytesAt.src {w : World} {A : Option Addr} {c : Nat} {b : List UInt8} (h : BytesAt w (.slice A b.length c) b) : SrcAt w A b.length (byteCells b) := by
  obtain ⟨A', c', hv, hc⟩ := h
  simp only [Value.slice.injEq, true_and] at hv
  obtain ⟨rfl, rfl⟩ := hv
  intro hp
  obtain ⟨g, o, rfl, hcell⟩ := hc hp
  refine ⟨g, o, rfl, fun j u hu => ?_⟩
  simp only [byteCells, List.getElem?_map, Option.map_eq_some_iff] at hu
  obtain ⟨x, hx, rfl⟩ := hu
  exact hcell j x hx

/-- Behind the copy of the net. -/
structure Cop (w : World) (fs : List Fl) (ps : List (Fl × Value)) (A : Option Addr) (c g1 ca1 : Nat) (W : World) : Prop where
  row : W.ownsRow (w.heap.size + 1 + 1) 31 4 (.slice (some ⟨g1, 0, none⟩) fs.length ca1) fs.length (ps.flatMap pcells)
  nbox : HasBlk W w.heap.size 26 #[.slice A fs.length c]
  rbox : HasBlk W (w.heap.size + 1) 26 #[.slice none 0 0]
  low : Below w.heap.size w W
theorem Cop.later {w W W' : World} {fs : List Fl} {ps : List (Fl × Value)} {A : Option Addr} {c g1 ca1 : Nat} (h : Cop w fs ps A c g1 ca1 W) (hb : Below W.heap.size W W') : Cop w fs ps A c g1 ca1 W' :=
  ⟨own_below h.row hb, h.nbox.later hb, h.rbox.later hb, below_on h.low.size h.low hb⟩
theorem Cop.cells {w W : World} {fs : List Fl} {ps : List (Fl × Value)} {A : Option Addr} {c g1 ca1 : Nat} (h : Cop w fs ps A c g1 ca1 W) {k : Nat} {f : Fl} {v : Value} (hp : ps[k]? = some (f, v)) (hk : k < fs.length) :
    W.cell? ⟨g1, k * 4, none⟩ = some (.int .i64 f.fr) ∧ W.cell? ⟨g1, k * 4 + 1, none⟩ = some (.int .i64 f.to) ∧ W.cell? ⟨g1, k * 4 + 2, none⟩ = some v ∧ W.cell? ⟨g1, k * 4 + 3, none⟩ = some (.bool f.bad) := by
  have hc : ∀ j, j < 4 → W.cell? ⟨g1, k * 4 + j, none⟩ = (pcells (f, v))[j]? := by
    intro j hj
    rw [h.row.cellAt (k * 4 + j) (by omega), pflat ps k _ hp j hj]
  exact ⟨hc 0 (by omega), hc 1 (by omega), hc 2 (by omega), hc 3 (by omega)⟩

/-- Bytes that lie in block g. -/
def BytesIn (w : World) (g : Nat) (b : List UInt8) : Prop := ∀ j x, b[j]? = some x → w.cell? ⟨g, j, none⟩ = some (.int .u8 (x.toNat : Int))
theorem BytesIn.at_ {w : World} {g c : Nat} {b : List UInt8} (h : BytesIn w g b) {n : Nat} (hn : n = b.length) : BytesAt w (.slice (some ⟨g, 0, none⟩) n c) b := by
  subst hn
  exact ⟨_, _, rfl, fun _ => ⟨g, 0, rfl, fun j x hj => by rw [Nat.zero_add]; exact h j x hj⟩⟩
theorem BytesIn.off {w : World} {g g' : Nat} {b : List UInt8} (h : BytesIn w g b) (hg : g ≠ g') (i : Nat) (u : Value) : BytesIn (w.setCell ⟨g', i, none⟩ u) g b := fun j x hj =>
  (World.cell?_setCell_other w _ _ u (fun e => hg (by simp only [Addr.mk.injEq] at e; omega))).trans (h j x hj)
theorem own_bytesIn {w : World} {base g c n : Nat} {b : List UInt8} (h : w.ownsRow base 5 1 (.slice (some ⟨g, 0, none⟩) n c) n (byteCells b)) (hn : n = b.length) : BytesIn w g b := by
  subst hn
  intro j x hj
  have hl : j < b.length := (List.getElem?_eq_some_iff.1 hj).1
  rw [h.cellAt j (by omega)]
  simp [byteCells, hj]

theorem Cop.turn {w W : World} {fs : List Fl} {ps : List (Fl × Value)} {A : Option Addr} {c g1 ca1 g2 cb2 k n : Nat} {f f' : Fl} {v : Value} (h : Cop w fs ps A c g1 ca1 W) (hps : ps.map (·.1) = fs) (hby : ∀ p ∈ ps, BytesAt w p.2 p.1.b) (hp : ps[k]? = some (f, v))
    (h0 : f'.fr = f.fr) (h1 : f'.to = f.to) (h3 : f'.bad = true) (hn : n = f'.b.length) (hB : BytesIn W g2 f'.b) (hne : g2 ≠ g1) (hr : w.heap.size + 1 < g1) :
    NetAt ((((W.setCell ⟨g1, k * 4, none⟩ (.int .i64 f.fr)).setCell ⟨g1, k * 4 + 1, none⟩ (.int .i64 f.to)).setCell ⟨g1, k * 4 + 2, none⟩ (.slice (some ⟨g2, 0, none⟩) n cb2)).setCell ⟨g1, k * 4 + 3, none⟩ (.bool true)) (.slice (some ⟨g1, 0, none⟩) fs.length ca1) (fs.set k f') ∧
    HasBlk ((((W.setCell ⟨g1, k * 4, none⟩ (.int .i64 f.fr)).setCell ⟨g1, k * 4 + 1, none⟩ (.int .i64 f.to)).setCell ⟨g1, k * 4 + 2, none⟩ (.slice (some ⟨g2, 0, none⟩) n cb2)).setCell ⟨g1, k * 4 + 3, none⟩ (.bool true)) (w.heap.size + 1) 26 #[.slice none 0 0] ∧
    Below w.heap.size w ((((W.setCell ⟨g1, k * 4, none⟩ (.int .i64 f.fr)).setCell ⟨g1, k * 4 + 1, none⟩ (.int .i64 f.to)).setCell ⟨g1, k * 4 + 2, none⟩ (.slice (some ⟨g2, 0, none⟩) n cb2)).setCell ⟨g1, k * 4 + 3, none⟩ (.bool true)) := by
  have hpl := fls_len hps
  have R := ((((h.row.stored (k * 4) (.int .i64 f.fr)).1.stored (k * 4 + 1) (.int .i64 f.to)).1.stored (k * 4 + 2) (.slice (some ⟨g2, 0, none⟩) n cb2)).1.stored (k * 4 + 3) (.bool true)).1
  have B := (((h.rbox.off (p := ⟨g1, k * 4, none⟩) (by dsimp only; omega) (.int .i64 f.fr)).off (p := ⟨g1, k * 4 + 1, none⟩) (by dsimp only; omega) (.int .i64 f.to)).off (p := ⟨g1, k * 4 + 2, none⟩) (by dsimp only; omega) (.slice (some ⟨g2, 0, none⟩) n cb2)).off (p := ⟨g1, k * 4 + 3, none⟩) (by dsimp only; omega) (.bool true)
  have L := (((h.low.setCell (p := ⟨g1, k * 4, none⟩) (by dsimp only; omega) (.int .i64 f.fr)).setCell (p := ⟨g1, k * 4 + 1, none⟩) (by dsimp only; omega) (.int .i64 f.to)).setCell (p := ⟨g1, k * 4 + 2, none⟩) (by dsimp only; omega) (.slice (some ⟨g2, 0, none⟩) n cb2)).setCell (p := ⟨g1, k * 4 + 3, none⟩) (by dsimp only; omega) (.bool true)
  have BY := (((hB.off hne (k * 4) (.int .i64 f.fr)).off hne (k * 4 + 1) (.int .i64 f.to)).off hne (k * 4 + 2) (.slice (some ⟨g2, 0, none⟩) n cb2)).off hne (k * 4 + 3) (.bool true)
  refine ⟨?_, B, L⟩
  generalize (((W.setCell ⟨g1, k * 4, none⟩ (.int .i64 f.fr)).setCell ⟨g1, k * 4 + 1, none⟩ (.int .i64 f.to)).setCell ⟨g1, k * 4 + 2, none⟩ (.slice (some ⟨g2, 0, none⟩) n cb2)).setCell ⟨g1, k * 4 + 3, none⟩ (.bool true) = Wf at R L BY ⊢
  have hset := pcells_set4 ps k (f, v) (f', .slice (some ⟨g2, 0, none⟩) n cb2) hp h0 h1
  simp only [h3] at hset
  rw [hset] at R
  have hmap : (ps.set k (f', Value.slice (some ⟨g2, 0, none⟩) n cb2)).map (·.1) = fs.set k f' := by rw [List.map_set, hps]
  rw [← hmap]
  refine row_netAt (by rw [List.length_set, hpl]; exact R) (fun p hpm => ?_)
  rcases List.mem_or_eq_of_mem_set hpm with hm | rfl
  · exact (hby p hm).later L
  · exact BY.at_ hn

set_option maxRecDepth 100000 in
set_option maxHeartbeats 4000000 in
theorem rturn_any (v : Value) (fs : List Fl) (i a : Int) (y : UInt8) (k : Nat) (f : Fl) (w : World) (h : NetAt w v fs) (hf : fs[k]? = some f) (hk : ofI i fs.length = k) (hi : i ≤ 9223372036854775807) (ha : a ≤ 9223372036854775807) (hn : fs.length ≤ 400) (hl : f.b.length ≤ 2000) (E : Ending → World → Prop)
    (h6 : f.bad = true → ∀ e w', NetE w [] 6 e w' → E e w')
    (h1 : f.bad = false → (y.toNat : Int) = 0 ∨ f.b.length = 0 → ∀ e w', NetE w [] 1 e w' → E e w')
    (h0 : f.bad = false → (y.toNat : Int) ≠ 0 → ∀ (j : Nat) (x : UInt8), f.b[j]? = some x → ofI a f.b.length = j → ∀ e w', NetE w (fs.set k (turnF f j (x ^^^ y))) 0 e w' → E e w') :
    Calls Try.prog 21 #[.agg #[v], .int .i64 i, .int .i64 a, .int .u8 (y.toNat : Int)] w E := by
  have hkl : k < fs.length := (List.getElem?_eq_some_iff.1 hf).1
  obtain ⟨A, c, ps, rfl, hps, hby, hsrc⟩ := h.row
  have hpl := fls_len hps
  obtain ⟨⟨pf, pv⟩, hp⟩ : ∃ p, ps[k]? = some p := ⟨_, List.getElem?_eq_getElem (by omega)⟩
  have hpf : pf = f := by
    have : (ps.map (·.1))[k]? = some pf := by simp [hp]
    rw [hps, hf] at this
    exact (Option.some.inj this).symm
  subst hpf
  have hB := hby _ (List.mem_of_getElem? hp)
  simp only at hB
  obtain ⟨bA, bc, rfl⟩ := hB.shape
  have HPS := Lib.hid hps
  have HBY := Lib.hid hby
  have HSRC : Hid (SrcAt w A fs.length (ps.flatMap pcells)) := Lib.hid hsrc
  have HB := Lib.hid hB
  have HP := Lib.hid hp
  have HK := Lib.hid hk
  have H6 := Lib.hid h6
  have H1 := Lib.hid h1
  have H0 := Lib.hid h0
  have hq : (0 : Int) < (fs.length : Int) := by omega
  have hq2 : (fs.length : Int) ≤ 9223372036854775807 := by omega
  have he : ((fs.length : Int) == 0) = false := by rw [beq_eq_false_iff_ne]; omega
  have hk0 : (0 : Int) ≤ (k : Int) := by omega
  have hk1 : (k : Int) < (fs.length : Int) := by omega
  clear h hf hk hps hby hsrc hp hB h6 h1 h0
  go_enter Try.func21, Try.ntmps21
  have b2 : ∀ o1 o2 : Obj, Below w.heap.size w ((w.alloc o1).alloc o2) := fun o1 o2 => ((Below.refl _ _).alloc (Nat.le_refl _) o1).alloc (by simp) o2
  have HB2 := Lib.hid b2
  clear b2
  go_wp2_with (at_builtin; refine app31n rfl (.const (.slice none 0 0)) (.tmp 20) rfl rfl rfl (news := ps.flatMap pcells) (by rw [pflat_length, hpl]) ?hs (pflat_one HBY.out) (by omega) ?_)
  case hs => exact HSRC.out.later (HB2.out _ _)
  intro A1 ca1 w1 hown1 hb1
  have hb1' : Below ((w.alloc (.cells #[.slice A fs.length c] 26)).alloc (.cells #[.slice none 0 0] 26)).heap.size ((w.alloc (.cells #[.slice A fs.length c] 26)).alloc (.cells #[.slice none 0 0] 26)) w1 := by simpa using hb1
  have Y0 := ((HasBlk.fresh w 26 #[.slice A fs.length c]).past (.cells #[.slice none 0 0] 26)).later hb1'
  have Y1 := (HasBlk.fresh (w.alloc (.cells #[.slice A fs.length c] 26)) 26 #[.slice none 0 0]).later hb1'
  simp only [World.size_alloc] at Y1 hown1
  have hB1 : Below w.heap.size w w1 := below_on (W := (w.alloc (.cells #[.slice A fs.length c] 26)).alloc (.cells #[.slice none 0 0] 26)) (by simp; omega) (HB2.out _ _) hb1'
  obtain ⟨g1, cc1, hv1⟩ := Go.Joins.ownsRow_form hown1 (by omega)
  simp only [Value.slice.injEq, true_and] at hv1
  obtain ⟨rfl, rfl⟩ := hv1
  have HC := Lib.hid (show Cop w fs ps A c g1 ca1 w1 from ⟨hown1, Y0, Y1, hB1⟩)
  obtain ⟨c0, c1, c2, c3⟩ := HC.out.cells HP.out hkl
  have rf := Y1.free 0
  have rl := Y1.lt
  have r0 := Y1.cell 0
  simp only [List.getElem?_toArray, List.getElem?_cons_zero] at r0
  clear Y0 Y1 hb1 hb1' hown1 hB1 HSRC
  go_wp2_with fail
  refine (place_is _ _ _ hq hq2 hi HK.out).mono ?_
  rintro e w1 ⟨rfl, rfl⟩
  by_cases hbad : pf.bad = true
  case pos =>
    have HBAD := Lib.hid hbad
    rw [hbad] at c3
    clear hbad
    go_wp2
    refine bodyPost_ret (v := .tuple #[.agg #[.slice none 0 0], .int .i64 6]) (by simp [results, Try.results21, go_sem, r0]) rfl (H6.out HBAD.out _ _ ⟨_, rfl, netNil _, ?_⟩)
    repeat (first | exact HC.out.low | refine Below.setCell ?_ (by first | omega | (simp; done) | (simp; omega)) _)
  case neg =>
    have hbad : pf.bad = false := by simpa using hbad
    have HBAD := Lib.hid hbad
    rw [hbad] at c3
    clear hbad
    by_cases hy : ((y.toNat : Int) == 0) = true
    case pos =>
      go_wp2
      refine bodyPost_ret (v := .tuple #[.agg #[.slice none 0 0], .int .i64 1]) (by simp [results, Try.results21, go_sem, r0]) rfl (H1.out HBAD.out (.inl (by simpa using hy)) _ _ ⟨_, rfl, netNil _, ?_⟩)
      repeat (first | exact HC.out.low | refine Below.setCell ?_ (by first | omega | (simp; done) | (simp; omega)) _)
    case neg =>
      have hy : ((y.toNat : Int) == 0) = false := by simpa using hy
      by_cases hv : ((pf.b.length : Int) == 0) = true
      case pos =>
        go_wp2
        refine bodyPost_ret (v := .tuple #[.agg #[.slice none 0 0], .int .i64 1]) (by simp [results, Try.results21, go_sem, r0]) rfl (H1.out HBAD.out (.inr (by have := (beq_iff_eq.1 hv); omega)) _ _ ⟨_, rfl, netNil _, ?_⟩)
        repeat (first | exact HC.out.low | refine Below.setCell ?_ (by first | omega | (simp; done) | (simp; omega)) _)
      case neg =>
        have hv : ((pf.b.length : Int) == 0) = false := by simpa using hv
        have HY : Hid ((y.toNat : Int) ≠ 0) := Lib.hid (by simpa using hy)
        obtain ⟨j, x, hx, hj⟩ := of_byte hv a
        have HX := Lib.hid hx
        have HJ := Lib.hid hj
        have hjl : j < pf.b.length := (List.getElem?_eq_some_iff.1 hx).1
        clear hx hj
        go_wp2_with (at_builtin; refine app5n rfl (.const (.slice none 0 0)) (.tmp 48) rfl rfl rfl (news := byteCells pf.b) (by rw [byteCells_length, Nat.mul_one]) ?hs (byteCells_one _) (by omega) ?_)
        case hs => exact (HB.out.later HC.out.low).src
        intro B2 cb2 w2 hown2 hb2
        obtain ⟨g2, cc2, hv2⟩ := Go.Joins.ownsRow_form hown2 (by omega)
        simp only [Value.slice.injEq, true_and] at hv2
        obtain ⟨rfl, rfl⟩ := hv2
        have HC2 := Lib.hid (HC.out.later hb2)
        have hg2 := (World.ownsRow.lt hown2 g2 rfl).1
        have hg1 := (World.ownsRow.lt HC.out.row g1 rfl).2
        have hne : g2 ≠ g1 := by omega
        have hcj : w2.cell? ⟨g2, j, none⟩ = some (.int .u8 (x.toNat : Int)) := by
          rw [hown2.cellAt j (by omega)]
          simp [byteCells, HX.out]
        have hfj := hown2.frozenAt j
        have hj0 : (0 : Int) ≤ (j : Int) := by omega
        have hj1 : (j : Int) < (pf.b.length : Int) := by omega
        have hp0 : (0 : Int) < (pf.b.length : Int) := by omega
        have hp2 : (pf.b.length : Int) ≤ 9223372036854775807 := by omega
        have hxor : bits .xor .u8 (x.toNat : Int) (y.toNat : Int) = ((x.toNat ^^^ y.toNat : Nat) : Int) := u8_xor_nat _ _ x.toNat_lt y.toNat_lt
        obtain ⟨e0, e1, _, _⟩ := HC2.out.cells HP.out hkl
        have HO2 := Lib.hid hown2
        clear hown2 hb2 c0 c1 c2 c3 r0 rf rl
        go_wp2_with fail
        refine (place_is _ _ _ hp0 hp2 ha HJ.out).mono ?_
        rintro e w2 ⟨rfl, rfl⟩
        go_upto_region 12 with (fail)
        have hset : (byteCells pf.b).set j (.int .u8 ((x.toNat ^^^ y.toNat : Nat) : Int)) = byteCells (pf.b.set j (x ^^^ y)) := by
          rw [byteCells, byteCells, List.map_set, UInt8.toNat_xor]
        have hS := (HO2.out.stored j (.int .u8 ((x.toNat ^^^ y.toNat : Nat) : Int))).1
        rw [hset] at hS
        have HBI := Lib.hid (own_bytesIn hS (by simp))
        have hz2 : w.heap.size + 1 < g1 := by have := (World.ownsRow.lt HC.out.row g1 rfl).1; omega
        have hC3 : Cop w fs ps A c g1 ca1 (w2.setCell ⟨g2, j, none⟩ (.int .u8 ((x.toNat ^^^ y.toNat : Nat) : Int))) :=
          ⟨own_put HC2.out.row (fun e => hne (by simpa [Value.ownBlock] using e.symm)) _ _, HC2.out.nbox.off (p := ⟨g2, j, none⟩) (by dsimp only; have := HC.out.nbox.lt; omega) _, HC2.out.rbox.off (p := ⟨g2, j, none⟩) (by dsimp only; have := HC.out.rbox.lt; omega) _, HC2.out.low.setCell (p := ⟨g2, j, none⟩) (by dsimp only; omega) _⟩
        have HC3 := Lib.hid hC3
        clear hS hset hC3 e0 e1 hcj hfj
        generalize w2.setCell ⟨g2, j, none⟩ (.int .u8 ((x.toNat ^^^ y.toNat : Nat) : Int)) = W at HBI HC3 ⊢
        obtain ⟨e0, e1, e2, e3⟩ := HC3.out.cells HP.out hkl
        have ef0 := HC3.out.row.frozenAt (k * 4)
        have ef1 := HC3.out.row.frozenAt (k * 4 + 1)
        have ef2 := HC3.out.row.frozenAt (k * 4 + 2)
        have ef3 := HC3.out.row.frozenAt (k * 4 + 3)
        go_region
        have HF := Lib.hid (HC3.out.turn HPS.out HBY.out HP.out (f' := turnF pf j (x ^^^ y)) (n := pf.b.length) (cb2 := cb2) rfl rfl rfl (by simp [turnF]) HBI.out hne hz2)
        clear e0 e1 e2 e3 ef0 ef1 ef2 ef3
        generalize (((W.setCell ⟨g1, k * 4, none⟩ (.int .i64 pf.fr)).setCell ⟨g1, k * 4 + 1, none⟩ (.int .i64 pf.to)).setCell ⟨g1, k * 4 + 2, none⟩ (.slice (some ⟨g2, 0, none⟩) pf.b.length cb2)).setCell ⟨g1, k * 4 + 3, none⟩ (.bool true) = Wf at HF ⊢
        obtain ⟨hN, hR, hL⟩ := HF.out
        have r0 := hR.cell 0
        have rf := hR.free 0
        have rl := hR.lt
        simp only [List.getElem?_toArray, List.getElem?_cons_zero] at r0
        have HFN := Lib.hid ((NetAt.drew hN).box hR.drawn (.slice (some ⟨g1, 0, none⟩) fs.length ca1))
        have HFL := Lib.hid (hL.drew.setCell (p := ⟨w.heap.size + 1, 0, none⟩) (by dsimp only; omega) (.slice (some ⟨g1, 0, none⟩) fs.length ca1))
        have hlen : (fs.set k (turnF pf j (x ^^^ y))).length = fs.length := by simp
        clear hN hR hL
        go_wp2
        exact bodyPost_ret (v := .tuple #[.agg #[.slice (some ⟨g1, 0, none⟩) fs.length ca1], .int .i64 0]) (by simp [results, Try.results21, go_sem, r0]) rfl (H0.out HBAD.out HY.out j x HX.out HJ.out _ _ ⟨_, rfl, HFN.out, HFL.out⟩)
end Go.Proofs.Ytiognapakadggaa
