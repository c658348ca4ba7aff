/- NetOnly's worlds: what stands ahead of the switch, and behind it. -/
import Derived.Test.YtiognapakadggaaAwake
import Derived.Test.YtiognapakadggaaDouble
import Derived.Test.YtiognapakadggaaOne
import Derived.Test.YtiognapakadggaaOnlyL
import Derived.Test.YtiognapakadggaaCame2
import Derived.Deep.CutBlock
import Derived.Lib.SmallJoins
namespace Go.Proofs.Ytiognapakadggaa
open Go.RowKit

set_option maxRecDepth 100000 in
theorem nonly_many (v : Value) (os : List Op1) (w : World) (h : OpsAt w v os) (hm : 100 < os.length) : Calls Try.prog 6 #[v] w (Yes w) := by
  obtain ⟨A, c, rfl, hc⟩ := h
  have hm' : (100 : Int) < (os.length : Int) := by omega
  clear hc
  go_enter Try.func6, Try.ntmps6
  go_wp2_with fail
  refine (awake_any _).mono ?_
  rintro e w1 ⟨rfl, hb1⟩
  go_wp2
  go_ret
  exact ⟨rfl, hb1⟩

/-- The pieces of a row of cells. -/
abbrev fstOf (ps : List (Fl × Value)) : List Fl := ps.map (·.1)

/-- Ahead of each round: what was sent lies in a row of the law's own, the net in block nb. -/
def Rnd (w : World) (nb : Nat) (sv : Value) (ps : List (Fl × Value)) (ns : List Fl) (A : Option Addr) (c : Nat) (wr : World) : Prop :=
  Inv (fstOf ps) ns ∧ wr.ownsRow w.heap.size 31 4 sv ps.length (ps.flatMap pcells) ∧ (∀ p ∈ ps, BytesAt w p.2 p.1.b) ∧ HasBlk wr nb 26 #[.slice A ns.length c] ∧ NetAt wr (.slice A ns.length c) ns ∧ Below w.heap.size w wr

/-- The cells of a call. -/
abbrev ocells (o : Op1) (bv : Value) : Array Value := #[.int .i64 o.kind, .int .i64 o.i, .int .i64 o.at1, .int .i64 o.fr, .int .i64 o.tt, .int .u8 (o.by1.toNat : Int), bv]
/-- The cells of a piece. -/
abbrev fcells (f : Fl) (B : Option Addr) (d : Nat) : Array Value := #[.int .i64 f.fr, .int .i64 f.to, .slice B f.b.length d, .bool f.bad]

/-- Behind the switch. -/
def Sw (w : World) (nb N L : Nat) (o : Op1) (bv : Value) (ns : List Fl) (A' : Option Addr) (c' : Nat) (q5 q9 : Value) (wx : World) : Prop :=
  ∃ (e : Int) (ps : List (Fl × Value)) (ms : List Fl) (A : Option Addr) (c : Nat) (f : Fl) (B : Option Addr) (d : Nat),
    q9 = .int .i64 e ∧ ps.length ≤ L ∧ wx.ownsRow w.heap.size 31 4 q5 ps.length (ps.flatMap pcells) ∧ (∀ p ∈ ps, BytesAt w p.2 p.1.b) ∧
    HasBlk wx nb 26 #[.slice A' ns.length c'] ∧ HasBlk wx N 41 (ocells o bv) ∧ HasBlk wx (N + 1) 26 #[.slice A ms.length c] ∧ HasBlk wx (N + 1 + 1) 31 (fcells f B d) ∧ BytesAt wx (.slice B f.b.length d) f.b ∧
    (e ≠ 0 → Inv (fstOf ps) ns ∧ NetAt wx (.slice A' ns.length c') ns) ∧ (e = 0 → Inv (fstOf ps) ms ∧ NetAt wx (.slice A ms.length c) ms ∧ (o.kind = 1 → Okay (fstOf ps) f ∧ f.b.length ≤ 2000)) ∧ Below w.heap.size w wx

/-- Ahead of the switch. -/
structure Ah (w : World) (nb N L : Nat) (o : Op1) (bv sv : Value) (ps : List (Fl × Value)) (ns : List Fl) (A' : Option Addr) (c' : Nat) (W : World) : Prop where
  inv : Inv (fstOf ps) ns
  row : W.ownsRow w.heap.size 31 4 sv ps.length (ps.flatMap pcells)
  by1 : ∀ p ∈ ps, BytesAt w p.2 p.1.b
  nbox : HasBlk W nb 26 #[.slice A' ns.length c']
  net : NetAt W (.slice A' ns.length c') ns
  obox : HasBlk W N 41 (ocells o bv)
  mbox : HasBlk W (N + 1) 26 #[.slice A' ns.length c']
  fbox : HasBlk W (N + 1 + 1) 31 #[.int .i64 0, .int .i64 0, .slice none 0 0, .bool false]
  bby : BytesAt w bv o.b
  low : Below w.heap.size w W
  nlt : nb < N
  wlt : w.heap.size ≤ nb
  rlt : ∀ r, sv.ownBlock = some r → r < N
  old : ∃ w0 : World, w0.heap.size = N ∧ NetAt w0 (.slice A' ns.length c') ns ∧ Below N w0 W
  len : ps.length + 1 ≤ L

theorem Ah.later {w W W' : World} {nb N L : Nat} {o : Op1} {bv sv : Value} {ps : List (Fl × Value)} {ns : List Fl} {A' : Option Addr} {c' : Nat} (h : Ah w nb N L o bv sv ps ns A' c' W) (hb : Below W.heap.size W W') : Ah w nb N L o bv sv ps ns A' c' W' := by
  obtain ⟨w0, h1, h2, h3⟩ := h.old
  have hs := h3.size
  exact ⟨h.inv, own_below h.row hb, h.by1, h.nbox.later hb, h.net.later hb, h.obox.later hb, h.mbox.later hb, h.fbox.later hb, h.bby, below_on h.low.size h.low hb, h.nlt, h.wlt, h.rlt, ⟨w0, h1, h2, below_on (by omega) h3 hb⟩, h.len⟩

theorem cell_low {w0 W : World} {N : Nat} {v : Value} {fs : List Fl} (h1 : w0.heap.size = N) (h2 : NetAt w0 v fs) (h3 : Below N w0 W) : NetAt W v fs := h2.later (h1 ▸ h3)

/-- Bytes stay where a cell of a block that holds no byte is written. -/
theorem BytesAt.put31 {w : World} {v : Value} {bs : List UInt8} {b : Nat} {t : TypeId} {cs : Array Value} (h : BytesAt w v bs) (hb : HasBlk w b t cs) (hn : ∀ (i : Nat) (x : Int), cs[i]? ≠ some (.int .u8 x)) (i : Nat) (u : Value) : BytesAt (w.setCell ⟨b, i, none⟩ u) v bs := by
  obtain ⟨A', c', rfl, hc⟩ := h
  refine ⟨_, _, rfl, fun hp => ?_⟩
  obtain ⟨g, o, rfl, hcell⟩ := hc hp
  refine ⟨g, o, rfl, fun j x hj => ?_⟩
  have h1 := hcell j x hj
  refine (World.cell?_setCell_other w _ _ u (fun e => ?_)).trans h1
  simp only [Addr.mk.injEq, and_true] at e
  obtain ⟨rfl, _⟩ := e
  rw [hb.cell] at h1
  exact hn _ _ h1

theorem fcells_no {a b : Int} {s : Value} {c : Bool} (hs : ∀ x, s ≠ .int .u8 x) (i : Nat) (x : Int) : (#[Value.int .i64 a, .int .i64 b, s, .bool c] : Array Value)[i]? ≠ some (.int .u8 x) := by
  match i with
  | 0 => simp
  | 1 => simp
  | 2 => simpa using hs x
  | 3 => simp
  | _ + 4 => simp

theorem Ah.sw_m {w W : World} {nb N L : Nat} {o : Op1} {bv sv : Value} {ps : List (Fl × Value)} {ns : List Fl} {A' : Option Addr} {c' : Nat} (h : Ah w nb N L o bv sv ps ns A' c' W) {e : Int} {ms : List Fl} {A : Option Addr} {c : Nat}
    (hn : NetAt W (.slice A ms.length c) ms) (he : e = 0 → Inv (fstOf ps) ms) (hk : e = 0 → o.kind ≠ 1) : Sw w nb N L o bv ns A' c' sv (.int .i64 e) (W.setCell ⟨N + 1, 0, none⟩ (.slice A ms.length c)) := by
  have h1 := h.nlt
  have h2 := h.wlt
  refine ⟨e, ps, ms, A, c, ⟨0, 0, [], false⟩, none, 0, rfl, by have := h.len; omega, own_put h.row (own_ne h.row h.mbox (by decide)) _ _, h.by1, h.nbox.off (p := ⟨N + 1, 0, none⟩) (by dsimp only; omega) _, h.obox.off (p := ⟨N + 1, 0, none⟩) (by dsimp only; omega) _,
    by simpa using h.mbox.put 0 (.slice A ms.length c), h.fbox.off (p := ⟨N + 1, 0, none⟩) (by dsimp only; omega) _, ⟨none, 0, rfl, fun hp => absurd hp (by simp)⟩, fun _ => ⟨h.inv, h.net.box h.mbox _⟩, fun h0 => ⟨he h0, hn.box h.mbox _, fun hk1 => absurd hk1 (hk h0)⟩, h.low.setCell (p := ⟨N + 1, 0, none⟩) (by dsimp only; omega) _⟩

theorem Ah.sw_same {w W : World} {nb N L : Nat} {o : Op1} {bv sv : Value} {ps : List (Fl × Value)} {ns : List Fl} {A' : Option Addr} {c' : Nat} (h : Ah w nb N L o bv sv ps ns A' c' W) (hk : o.kind ≠ 1) : Sw w nb N L o bv ns A' c' sv (.int .i64 0) W :=
  ⟨0, ps, ns, A', c', ⟨0, 0, [], false⟩, none, 0, rfl, by have := h.len; omega, h.row, h.by1, h.nbox, h.obox, h.mbox, h.fbox, ⟨none, 0, rfl, fun hp => absurd hp (by simp)⟩, fun h0 => absurd rfl h0, fun _ => ⟨h.inv, h.net, fun hk1 => absurd hk1 hk⟩, h.low⟩

/-- While the piece's box is written. -/
structure Mid (w w0 : World) (base nb N : Nat) (sv bv vm vn vb : Value) (o : Op1) (ps : List (Fl × Value)) (ms : List Fl) (bs : List UInt8) (fresh : Prop) (cs : Array Value) (W : World) : Prop where
  row : W.ownsRow w.heap.size 31 4 sv ps.length (ps.flatMap pcells)
  nbox : HasBlk W nb 26 #[vn]
  obox : HasBlk W N 41 (ocells o bv)
  mbox : HasBlk W (N + 1) 26 #[vm]
  fbox : HasBlk W (N + 1 + 1) 31 cs
  by1 : BytesAt W vb bs
  old : Below N w0 W
  low : Below w.heap.size w W
  net : fresh → Fresh W base vm ms

theorem Mid.put {w w0 W : World} {base nb N : Nat} {sv bv vm vn vb : Value} {o : Op1} {ps : List (Fl × Value)} {ms : List Fl} {bs : List UInt8} {fresh : Prop} {cs : Array Value} (h : Mid w w0 base nb N sv bv vm vn vb o ps ms bs fresh cs W)
    (h1 : nb < N) (h2 : w.heap.size ≤ nb) (hr : sv.ownBlock ≠ some (N + 1 + 1)) (hb : fresh → N + 1 + 1 < base) (hc : ∀ (i : Nat) (x : Int), cs[i]? ≠ some (.int .u8 x)) (i : Nat) (u : Value) :
    Mid w w0 base nb N sv bv vm vn vb o ps ms bs fresh (cs.setIfInBounds i u) (W.setCell ⟨N + 1 + 1, i, none⟩ u) :=
  ⟨own_put h.row hr _ _, h.nbox.off (p := ⟨N + 1 + 1, i, none⟩) (by dsimp only; omega) _, h.obox.off (p := ⟨N + 1 + 1, i, none⟩) (by dsimp only; omega) _, h.mbox.off (p := ⟨N + 1 + 1, i, none⟩) (by dsimp only; omega) _,
    h.fbox.put i u, h.by1.put31 h.fbox hc i u, h.old.setCell (p := ⟨N + 1 + 1, i, none⟩) (by dsimp only; omega) _, h.low.setCell (p := ⟨N + 1 + 1, i, none⟩) (by dsimp only; omega) _, fun hf => (h.net hf).put_low (hb hf) i u⟩

theorem Ah.sw_mf {w W : World} {nb N L : Nat} {o : Op1} {bv sv : Value} {ps : List (Fl × Value)} {ns : List Fl} {A' : Option Addr} {c' : Nat} (h : Ah w nb N L o bv sv ps ns A' c' W) {e : Int} {ms : List Fl} {A : Option Addr} {c : Nat} {f : Fl} {B : Option Addr} {d base : Nat}
    (hb : BytesAt W (.slice B f.b.length d) f.b) (hbase : e = 0 → N + 1 + 1 < base) (hn : e = 0 → Fresh W base (.slice A ms.length c) ms) (he : e = 0 → Inv (fstOf ps) ms ∧ (o.kind = 1 → Okay (fstOf ps) f ∧ f.b.length ≤ 2000)) :
    Sw w nb N L o bv ns A' c' sv (.int .i64 e) (((((W.setCell ⟨N + 1, 0, none⟩ (.slice A ms.length c)).setCell ⟨N + 1 + 1, 0, none⟩ (.int .i64 f.fr)).setCell ⟨N + 1 + 1, 1, none⟩ (.int .i64 f.to)).setCell ⟨N + 1 + 1, 2, none⟩ (.slice B f.b.length d)).setCell ⟨N + 1 + 1, 3, none⟩ (.bool f.bad)) := by
  have h1 := h.nlt
  have h2 := h.wlt
  have hr : sv.ownBlock ≠ some (N + 1 + 1) := fun hh => by have := h.rlt _ hh; omega
  obtain ⟨w0, e1, e2, e3⟩ := h.old
  have M0 : Mid w w0 base nb N sv bv (.slice A ms.length c) (.slice A' ns.length c') (.slice B f.b.length d) o ps ms f.b (e = 0) #[.int .i64 0, .int .i64 0, .slice none 0 0, .bool false] (W.setCell ⟨N + 1, 0, none⟩ (.slice A ms.length c)) :=
    ⟨own_put h.row (own_ne h.row h.mbox (by decide)) _ _, h.nbox.off (p := ⟨N + 1, 0, none⟩) (by dsimp only; omega) _, h.obox.off (p := ⟨N + 1, 0, none⟩) (by dsimp only; omega) _, by simpa using h.mbox.put 0 (.slice A ms.length c),
      h.fbox.off (p := ⟨N + 1, 0, none⟩) (by dsimp only; omega) _, hb.box h.mbox _, e3.setCell (p := ⟨N + 1, 0, none⟩) (by dsimp only; omega) _, h.low.setCell (p := ⟨N + 1, 0, none⟩) (by dsimp only; omega) _, fun h0 => (hn h0).put h.mbox (by decide) (by decide) 0 _⟩
  have M4 := (((M0.put h1 h2 hr hbase (fcells_no (by simp)) 0 (.int .i64 f.fr)).put h1 h2 hr hbase (fcells_no (by simp)) 1 (.int .i64 f.to)).put h1 h2 hr hbase (fcells_no (by simp)) 2 (.slice B f.b.length d)).put h1 h2 hr hbase (fcells_no (by simp)) 3 (.bool f.bad)
  generalize ((((W.setCell ⟨N + 1, 0, none⟩ (.slice A ms.length c)).setCell ⟨N + 1 + 1, 0, none⟩ (.int .i64 f.fr)).setCell ⟨N + 1 + 1, 1, none⟩ (.int .i64 f.to)).setCell ⟨N + 1 + 1, 2, none⟩ (.slice B f.b.length d)).setCell ⟨N + 1 + 1, 3, none⟩ (.bool f.bad) = W4 at M4 ⊢
  exact ⟨e, ps, ms, A, c, f, B, d, rfl, by have := h.len; omega, M4.row, h.by1, M4.nbox, M4.obox, M4.mbox, M4.fbox, M4.by1, fun _ => ⟨h.inv, cell_low e1 e2 M4.old⟩, fun h0 => ⟨(he h0).1, (M4.net h0).netAt, (he h0).2⟩, M4.low⟩

theorem Rnd.ahead {w wr : World} {nb L : Nat} {sv : Value} {ps : List (Fl × Value)} {ns : List Fl} {A : Option Addr} {c : Nat} (h : Rnd w nb sv ps ns A c wr) (hw : w.heap.size ≤ nb) (hL : ps.length + 1 ≤ L) (o : Op1) {bv : Value} (hb : BytesAt w bv o.b) :
    Ah w nb wr.heap.size L o bv sv ps ns A c (((wr.alloc (.cells (ocells o bv) 41)).alloc (.cells #[.slice A ns.length c] 26)).alloc (.cells #[.int .i64 0, .int .i64 0, .slice none 0 0, .bool false] 31)) := by
  obtain ⟨hI, hO, hBy, hK, hN, hG⟩ := h
  have x3 : Below wr.heap.size wr (((wr.alloc (.cells (ocells o bv) 41)).alloc (.cells #[.slice A ns.length c] 26)).alloc (.cells #[.int .i64 0, .int .i64 0, .slice none 0 0, .bool false] 31)) := by
    repeat (first | exact Below.refl _ _ | refine Below.alloc ?_ (by first | omega | (simp; done) | (simp; omega)) _)
  refine ⟨hI, own_below hO x3, hBy, hK.later x3, hN.later x3, ((HasBlk.fresh wr 41 _).past _).past _, ?_, ?_, hb, below_on hG.size hG x3, hK.lt, hw, fun r hr => (World.ownsRow.lt hO r hr).2, ⟨wr, rfl, hN, x3⟩, hL⟩
  · have := (HasBlk.fresh (wr.alloc (.cells (ocells o bv) 41)) 26 #[.slice A ns.length c]).past (.cells #[.int .i64 0, .int .i64 0, .slice none 0 0, .bool false] 31)
    simpa using this
  · have := HasBlk.fresh ((wr.alloc (.cells (ocells o bv) 41)).alloc (.cells #[.slice A ns.length c] 26)) 31 #[.int .i64 0, .int .i64 0, .slice none 0 0, .bool false]
    simpa using this

theorem of_some {ns : List Fl} (h : ns ≠ []) (i : Int) : ∃ (k : Nat) (f : Fl), ns[k]? = some f ∧ ofI i ns.length = k := by
  have hp : 0 < ns.length := List.length_pos_iff.2 h
  obtain ⟨h1, h2⟩ := ofI_lt (i := i) (n := (ns.length : Int)) (by omega)
  obtain ⟨k, hk⟩ := Int.eq_ofNat_of_zero_le h1
  have hk' : k < ns.length := by omega
  exact ⟨k, ns[k], List.getElem?_eq_getElem hk', hk⟩
theorem of_byte {b : List UInt8} (h : ((b.length : Int) == 0) = false) (i : Int) : ∃ (k : Nat) (x : UInt8), b[k]? = some x ∧ ofI i b.length = k := by
  have h0 : (b.length : Int) ≠ 0 := by simpa using h
  obtain ⟨h1, h2⟩ := ofI_lt (i := i) (n := (b.length : Int)) (by omega)
  obtain ⟨k, hk⟩ := Int.eq_ofNat_of_zero_le h1
  have hk' : k < b.length := by omega
  exact ⟨k, b[k], List.getElem?_eq_getElem hk', hk⟩
theorem y_ne {y : UInt8} (h : ((y.toNat : Int) == 0) = false) : y ≠ 0 := by
  intro e
  subst e
  simp at h

theorem Sw.later {w wx wy : World} {nb N L : Nat} {o : Op1} {bv : Value} {ns : List Fl} {A' : Option Addr} {c' : Nat} {q5 q9 : Value} (h : Sw w nb N L o bv ns A' c' q5 q9 wx) (hb : Below wx.heap.size wx wy) : Sw w nb N L o bv ns A' c' q5 q9 wy := by
  obtain ⟨e, ps, ms, A, c, f, B, d, h1, hl, h2, h3, h4, h5, h6, h7, h8, h9, h10, h11⟩ := h
  exact ⟨e, ps, ms, A, c, f, B, d, h1, hl, own_below h2 hb, h3, h4.later hb, h5.later hb, h6.later hb, h7.later hb, h8.later hb, fun h0 => ⟨(h9 h0).1, (h9 h0).2.later hb⟩, fun h0 => ⟨(h10 h0).1, (h10 h0).2.1.later hb, (h10 h0).2.2⟩, below_on h11.size h11 hb⟩

theorem Fresh.grown {w w' : World} {base : Nat} {v : Value} {fs : List Fl} {row : Option Nat} (h : Fresh w base v fs) (hg : w.grownBy w' row) (hr : ∀ r, row = some r → r < base) : Fresh w' base v fs := by
  obtain ⟨ps, h1, h2, h3, h4⟩ := h
  refine ⟨ps, h1, h2, fun p hp => ⟨(h3 p hp).1, HasBlk.grown (h3 p hp).2 hg (fun e => ?_)⟩, h4.kept hg ?_⟩
  · have := hr _ e
    have := (h3 p hp).1
    omega
  · cases hv : v.ownBlock with
    | none => exact .inl rfl
    | some b =>
      right
      intro e
      have := hr b e.symm
      have := (h4.lt b hv).1
      omega

theorem Ah.sw_send {w W w5 : World} {nb N L : Nat} {o : Op1} {bv sv v' : Value} {ps : List (Fl × Value)} {ns : List Fl} {A' : Option Addr} {c' : Nat} (h : Ah w nb N L o bv sv ps ns A' c' W) {gs : List Fl} {A : Option Addr} {c base : Nat} {O1 O2 : Obj}
    (hF : Fresh W base (.slice A gs.length c) gs) (hbase : N + 1 + 1 < base) (hI : Inv (fstOf ps ++ [⟨o.fr, o.tt, o.b, false⟩]) gs) (hk : o.kind ≠ 1)
    (hown : w5.ownsRow w.heap.size 31 4 v' (ps.length + 1) (ps.flatMap pcells ++ pcells (⟨o.fr, o.tt, o.b, false⟩, bv)))
    (hgr : (((W.setCell ⟨N + 1, 0, none⟩ (.slice A gs.length c)).alloc O1).alloc O2).grownBy w5 sv.ownBlock) : Sw w nb N L o bv ns A' c' v' (.int .i64 0) w5 := by
  have h1 := h.nlt
  have h2 := h.wlt
  have x2 : ∀ W : World, Below W.heap.size W ((W.alloc O1).alloc O2) := fun W => ((Below.refl _ _).alloc (Nat.le_refl _) _).alloc (by simp) _
  have R := own_put h.row (own_ne h.row h.mbox (by decide)) 0 (.slice A gs.length c)
  have hr : sv.ownBlock ≠ some (N + 1 + 1) := fun hh => by have := h.rlt _ hh; omega
  have B1 := (h.nbox.off (p := ⟨N + 1, 0, none⟩) (by dsimp only; omega) (.slice A gs.length c)).later (x2 _)
  have B2 := (h.obox.off (p := ⟨N + 1, 0, none⟩) (by dsimp only; omega) (.slice A gs.length c)).later (x2 _)
  have B3 : HasBlk (((W.setCell ⟨N + 1, 0, none⟩ (.slice A gs.length c)).alloc O1).alloc O2) (N + 1) 26 #[.slice A gs.length c] := HasBlk.later (by simpa using h.mbox.put 0 (.slice A gs.length c)) (x2 _)
  have B4 := (h.fbox.off (p := ⟨N + 1, 0, none⟩) (by dsimp only; omega) (.slice A gs.length c)).later (x2 _)
  have R2 := own_below R (x2 _)
  have F2 := ((hF.put h.mbox (by decide) (by decide) 0 (.slice A gs.length c)).later (x2 _)).grown hgr (fun r hh => by have := h.rlt _ hh; omega)
  have low := (below_on (by simpa using h.low.size) (h.low.setCell (p := ⟨N + 1, 0, none⟩) (by dsimp only; omega) (.slice A gs.length c)) (x2 _)).grown hgr (by have := h.low.size; simp; omega) (fun r hh => (World.ownsRow.lt h.row r hh).1)
  refine ⟨0, ps ++ [(⟨o.fr, o.tt, o.b, false⟩, bv)], gs, A, c, ⟨0, 0, [], false⟩, none, 0, rfl, by have := h.len; simpa using this, ?_, fun p hp => ?_, B1.grown hgr (own_ne R2 B1 (by decide)), B2.grown hgr (own_ne R2 B2 (by decide)), B3.grown hgr (own_ne R2 B3 (by decide)), B4.grown hgr hr,
    ⟨none, 0, rfl, fun hp => absurd hp (by simp)⟩, fun h0 => absurd rfl h0, fun _ => ⟨by simpa [fstOf] using hI, F2.netAt, fun hk1 => absurd hk1 hk⟩, low⟩
  · rw [List.flatMap_append]
    simpa using hown
  · rcases List.mem_append.1 hp with hp | hp
    · exact h.by1 p hp
    · rw [List.mem_singleton] at hp
      subst hp
      exact h.bby
theorem rnd_next {w wc wy : World} {nb : Nat} {sv : Value} {ps : List (Fl × Value)} {ns ms : List Fl} {A A' : Option Addr} {c c' : Nat} (hO : wc.ownsRow w.heap.size 31 4 sv ps.length (ps.flatMap pcells)) (hB : ∀ p ∈ ps, BytesAt w p.2 p.1.b) (hK : HasBlk wc nb 26 #[.slice A' ns.length c'])
    (hN : NetAt wc (.slice A ms.length c) ms) (hI : Inv (fstOf ps) ms) (hG : Below w.heap.size w wc) (hw : w.heap.size ≤ nb) (hb : Below wc.heap.size wc wy) : Rnd w nb sv ps ms A c (wy.setCell ⟨nb, 0, none⟩ (.slice A ms.length c)) := by
  have O := own_below hO hb
  have K := hK.later hb
  exact ⟨hI, own_put O (own_ne O K (by decide)) _ _, hB, by simpa using K.put 0 (.slice A ms.length c), (hN.later hb).box K _, (below_on hG.size hG hb).setCell (p := ⟨nb, 0, none⟩) hw _⟩
end Go.Proofs.Ytiognapakadggaa
