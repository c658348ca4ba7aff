/- net.those, with each of the three tests that it is called with: the pieces that are kept, in new memory alone, each with bytes of its own. -/
import Derived.Test.YtiognapakadggaaBytes
import Derived.Deep.LoopGhost
import Derived.Deep.DeepCutAuto
namespace Go.Proofs.Ytiognapakadggaa
open Go.RowKit

/-- The four cells of a piece whose bytes lie in block p.2. -/
def cellsOf (p : Fl × Nat) : List Value := [.int .i64 p.1.fr, .int .i64 p.1.to, .slice (some ⟨p.2, 0, none⟩) p.1.b.length p.1.b.length, .bool p.1.bad]
/-- The slice v holds the pieces fs, in memory from base on that nothing else shares. -/
def Fresh (w : World) (base : Nat) (v : Value) (fs : List Fl) : Prop :=
  ∃ ps : List (Fl × Nat), ps.map (·.1) = fs ∧ ps.Pairwise (fun p q => p.2 < q.2) ∧ (∀ p ∈ ps, base ≤ p.2 ∧ HasBlk w p.2 5 (byteCells p.1.b).toArray) ∧ w.ownsRow base 31 4 v ps.length (ps.flatMap cellsOf)

theorem flat4 : ∀ (ps : List (Fl × Nat)) (i : Nat) (p : Fl × Nat), ps[i]? = some p → ∀ j, j < 4 → (ps.flatMap cellsOf)[i * 4 + j]? = (cellsOf p)[j]? := by
  intro ps
  induction ps with
  | nil => intro i p h; simp at h
  | cons q qs ih =>
    intro i p h j hj
    rw [List.flatMap_cons]
    cases i with
    | zero =>
      simp at h
      subst h
      rw [List.getElem?_append_left (by simp [cellsOf]; omega)]
      simp
    | succ i =>
      simp at h
      rw [List.getElem?_append_right (by simp [cellsOf]; omega)]
      have := ih i p h j hj
      rw [← this]
      congr 1
      simp [cellsOf]
      omega
theorem flat4_length (ps : List (Fl × Nat)) : (ps.flatMap cellsOf).length = ps.length * 4 := by
  induction ps with
  | nil => rfl
  | cons q qs ih => rw [List.flatMap_cons, List.length_append, ih]; simp [cellsOf]; omega

theorem Fresh.netAt {w : World} {base : Nat} {v : Value} {fs : List Fl} (h : Fresh w base v fs) : NetAt w v fs := by
  obtain ⟨ps, rfl, _, hb, ho⟩ := h
  rcases ho.2 with ⟨rfl, h0⟩ | ⟨g, cap, cur, rfl, hbg, hg, hn, hm, hs, ht⟩
  · obtain rfl : ps = [] := List.eq_nil_of_length_eq_zero h0
    exact ⟨none, 0, rfl, fun h => absurd h (by simp)⟩
  · refine ⟨_, cap, by simp, fun hp => ⟨g, 0, rfl, fun i f hi => ?_⟩⟩
    simp only [List.getElem?_map, Option.map_eq_some_iff] at hi
    obtain ⟨p, hp1, rfl⟩ := hi
    have hlt : i < ps.length := (List.getElem?_eq_some_iff.1 hp1).1
    have hc : ∀ j, j < 4 → w.cell? ⟨g, i * 4 + j, none⟩ = (cellsOf p)[j]? := by
      intro j hj
      rw [ho.cellAt (i * 4 + j) (by omega), flat4 ps i p hp1 j hj]
    rw [Nat.zero_add]
    refine ⟨_, hc 0 (by omega), hc 1 (by omega), hc 2 (by omega), hc 3 (by omega), ?_⟩
    exact BytesAt.of_blk (hb p (List.mem_of_getElem? hp1)).2

/-- Of the first k pieces those that are kept. -/
def keptTo (p : Nat → Fl → Bool) (fs : List Fl) (k : Nat) : List Fl :=
  (List.range k).filterMap fun i => match fs[i]? with | some f => if p i f then some f else none | none => none
theorem keptTo_yes {p : Nat → Fl → Bool} {fs : List Fl} {k : Nat} {f : Fl} (h : fs[k]? = some f) (hp : p k f = true) : keptTo p fs (k + 1) = keptTo p fs k ++ [f] := by
  simp [keptTo, List.range_succ, List.filterMap_append, h, hp]
theorem keptTo_no {p : Nat → Fl → Bool} {fs : List Fl} {k : Nat} {f : Fl} (h : fs[k]? = some f) (hp : p k f = false) : keptTo p fs (k + 1) = keptTo p fs k := by
  simp [keptTo, List.range_succ, List.filterMap_append, h, hp]
theorem keptTo_len (p : Nat → Fl → Bool) (fs : List Fl) (k : Nat) : (keptTo p fs k).length ≤ k := by
  have := List.length_filterMap_le (fun i => match fs[i]? with | some f => if p i f then some f else none | none => none) (List.range k)
  simpa [keptTo] using this

/-- What those leaves. -/
def KeptR (w : World) (fs : List Fl) (e : Ending) (w' : World) : Prop :=
  ∃ v, e = .returned (.agg #[v]) ∧ Fresh w' w.heap.size v fs ∧ Below w.heap.size w w'

/-- What stands at the head of its rounds. -/
def InvT (w : World) (p : Nat → Fl → Bool) (fs : List Fl) (k : Nat) (v : Value) (wr : World) : Prop :=
  Fresh wr w.heap.size v (keptTo p fs k) ∧ Below w.heap.size w wr

theorem own_below {W w' : World} {base : Nat} {e : TypeId} {size : Nat} {v : Value} {n : Nat} {xs : List Value} (h : W.ownsRow base e size v n xs) (hb : Below W.heap.size W w') : w'.ownsRow base e size v n xs :=
  h.kept (row := none) ⟨hb.os, hb.tape, hb.output, hb.size, fun k hk _ => hb.block k hk⟩ (by cases v.ownBlock <;> simp)
theorem own_ne {W : World} {base : Nat} {e : TypeId} {size : Nat} {v : Value} {n : Nat} {xs : List Value} (h : W.ownsRow base e size v n xs) {b : Nat} {t : TypeId} {cs : Array Value} (hb : HasBlk W b t cs) (hne : e ≠ t) : v.ownBlock ≠ some b := by
  rcases h.2 with ⟨rfl, _⟩ | ⟨g, cap, cur, rfl, _, hh, _⟩
  · simp [Value.ownBlock]
  · intro he
    obtain rfl : g = b := by simpa [Value.ownBlock] using he
    unfold HasBlk at hb
    rw [hh] at hb
    simp only [Option.some.injEq, Obj.cells.injEq] at hb
    exact hne hb.2.1
theorem own_ne_new {W : World} {base : Nat} {e : TypeId} {size : Nat} {v : Value} {n : Nat} {xs : List Value} (h : W.ownsRow base e size v n xs) {b : Nat} (hb : W.heap.size ≤ b) : v.ownBlock ≠ some b := by
  intro he
  have := (h.lt _ he).2
  omega
theorem own_put {W : World} {base : Nat} {e : TypeId} {size : Nat} {v : Value} {n : Nat} {xs : List Value} (h : W.ownsRow base e size v n xs) {b : Nat} (hne : v.ownBlock ≠ some b) (i : Nat) (u : Value) : (W.setCell ⟨b, i, none⟩ u).ownsRow base e size v n xs :=
  ownsRow_setCell_other h hne u
theorem HasBlk.grown {w w' : World} {b : Nat} {t : TypeId} {cs : Array Value} {row : Option Nat} (h : HasBlk w b t cs) (hg : w.grownBy w' row) (hne : row ≠ some b) : HasBlk w' b t cs := (hg.block b h.lt (fun e => hne e.symm)).trans h

theorem Fresh.later {w w' : World} {base : Nat} {v : Value} {fs : List Fl} (h : Fresh w base v fs) (hb : Below w.heap.size w w') : Fresh w' base v fs := by
  obtain ⟨ps, h1, h2, h3, h4⟩ := h
  exact ⟨ps, h1, h2, fun p hp => ⟨(h3 p hp).1, (h3 p hp).2.later hb⟩, own_below h4 hb⟩

theorem Fresh.past {w : World} {base : Nat} {v : Value} {fs : List Fl} (h : Fresh w base v fs) (o : Obj) : Fresh (w.alloc o) base v fs := h.later ((Below.refl _ _).alloc (Nat.le_refl _) o)
theorem HasBlk.ne_ty {w : World} {b b' : Nat} {t t' : TypeId} {cs cs' : Array Value} (h : HasBlk w b t cs) (h' : HasBlk w b' t' cs') (hne : t ≠ t') : b ≠ b' := by
  rintro rfl
  unfold HasBlk at h h'
  rw [h] at h'
  simp only [Option.some.injEq, Obj.cells.injEq] at h'
  exact hne h'.2.1
theorem Fresh.put {w : World} {base : Nat} {v : Value} {fs : List Fl} (h : Fresh w base v fs) {b : Nat} {t : TypeId} {cs : Array Value} (hb : HasBlk w b t cs) (h31 : 31 ≠ t) (h5 : 5 ≠ t) (i : Nat) (u : Value) : Fresh (w.setCell ⟨b, i, none⟩ u) base v fs := by
  obtain ⟨ps, h1, h2, h3, h4⟩ := h
  exact ⟨ps, h1, h2, fun p hp => ⟨(h3 p hp).1, (h3 p hp).2.off (HasBlk.ne_ty (h3 p hp).2 hb h5) _⟩, own_put h4 (own_ne h4 hb h31) _ _⟩

theorem Try.info31 : (Try.prog.info? 31).map (fun i => (i.zero, i.size, i.bytes)) = some (some (.agg #[.int .i64 0, .int .i64 0, .slice none 0 0, .bool false]), 4, 48) := by kernel_rfl

/-- One piece more: what the append of a piece with bytes of its own leaves. -/
theorem Fresh.more {w w1 w2 : World} {base : Nat} {v v' : Value} {fs : List Fl} {f : Fl} {g : Nat} (hb : Below w.heap.size w w1) (hg : HasBlk w1 g 5 (byteCells f.b).toArray) (hlt : w.heap.size ≤ g) (hbase : base ≤ w.heap.size)
    (ps : List (Fl × Nat)) (h1 : ps.map (·.1) = fs) (h2 : ps.Pairwise (fun p q => p.2 < q.2)) (h3 : ∀ p ∈ ps, base ≤ p.2 ∧ HasBlk w p.2 5 (byteCells p.1.b).toArray) (hrow : v.ownBlock ≠ some g) (hrows : ∀ p ∈ ps, v.ownBlock ≠ some p.2)
    (hown : w2.ownsRow base 31 4 v' (ps.length + 1) (ps.flatMap cellsOf ++ cellsOf (f, g))) (hgr : w1.grownBy w2 v.ownBlock) : Fresh w2 base v' (fs ++ [f]) := by
  refine ⟨ps ++ [(f, g)], by simp [h1], ?_, ?_, ?_⟩
  · rw [List.pairwise_append]
    refine ⟨h2, by simp, fun p hp q hq => ?_⟩
    simp at hq
    subst hq
    exact Nat.lt_of_lt_of_le (h3 p hp).2.lt hlt
  · intro p hp
    rcases List.mem_append.1 hp with hp | hp
    · exact ⟨(h3 p hp).1, ((h3 p hp).2.later hb).grown hgr (hrows p hp)⟩
    · simp at hp
      subst hp
      exact ⟨Nat.le_trans hbase hlt, hg.grown hgr hrow⟩
  · simpa using hown

def TestB (w : World) (b : Bool) (e : Ending) (w' : World) : Prop := e = .returned (.bool b) ∧ Below w.heap.size w w'

theorem test_all (i : Int) (a c : Int) (vb : Value) (d : Bool) (w : World) : Calls Try.prog 31 #[.int .i64 i, .agg #[.int .i64 a, .int .i64 c, vb, .bool d]] w (TestB w true) := by
  go_enter Try.func31, Try.ntmps31
  go_wp2
  go_ret
  exact ⟨rfl, (Below.refl _ _).alloc (Nat.le_refl _) _⟩

theorem test_but (kb : Nat) (kv : Int) (i : Int) (a c : Int) (vb : Value) (d : Bool) (w : World) (hk : w.cell? ⟨kb, 0, none⟩ = some (.int .i64 kv)) : Calls Try.prog 28 #[.int .i64 i, .agg #[.int .i64 a, .int .i64 c, vb, .bool d], .pointer (some ⟨kb, 0, none⟩)] w (TestB w (i != kv)) := by
  have hlt := World.block_lt_of_cell? _ _ hk
  go_enter Try.func28, Try.ntmps28
  go_wp2
  go_ret
  exact ⟨rfl, (Below.refl _ _).alloc (Nat.le_refl _) _⟩

theorem test_way (fb tb : Nat) (fv tv : Int) (i : Int) (a c : Int) (vb : Value) (d : Bool) (w : World) (hf : w.cell? ⟨fb, 0, none⟩ = some (.int .i64 fv)) (ht : w.cell? ⟨tb, 0, none⟩ = some (.int .i64 tv)) : Calls Try.prog 29 #[.int .i64 i, .agg #[.int .i64 a, .int .i64 c, vb, .bool d], .pointer (some ⟨fb, 0, none⟩), .pointer (some ⟨tb, 0, none⟩)] w (TestB w (a != fv || c != tv)) := by
  have hlt := World.block_lt_of_cell? _ _ hf
  have hlt2 := World.block_lt_of_cell? _ _ ht
  by_cases h1 : a = fv
  · have h1' : (a != fv) = false := by simpa using h1
    have H : Hid ((a != fv || c != tv) = (c != tv)) := Lib.hid (by rw [h1']; simp)
    clear h1
    go_enter Try.func29, Try.ntmps29
    go_wp2
    go_ret
    exact ⟨by first | rfl | (rw [H.out]; rfl), (Below.refl _ _).alloc (Nat.le_refl _) _⟩
  · have h1' : (a != fv) = true := by simpa using h1
    have H : Hid ((a != fv || c != tv) = true) := Lib.hid (by rw [h1']; simp)
    clear h1
    go_enter Try.func29, Try.ntmps29
    go_wp2
    go_ret
    exact ⟨by first | rfl | (rw [H.out]; rfl), (Below.refl _ _).alloc (Nat.le_refl _) _⟩

theorem test_all' (i : Int) (a c : Int) (vb : Value) (d : Bool) (w : World) {t : Bool} (h : true = t) : Calls Try.prog 31 #[.int .i64 i, .agg #[.int .i64 a, .int .i64 c, vb, .bool d]] w (TestB w t) := h ▸ test_all i a c vb d w
theorem test_but' (kb : Nat) (kv : Int) (i : Int) (a c : Int) (vb : Value) (d : Bool) (w : World) (hk : w.cell? ⟨kb, 0, none⟩ = some (.int .i64 kv)) {t : Bool} (h : (i != kv) = t) : Calls Try.prog 28 #[.int .i64 i, .agg #[.int .i64 a, .int .i64 c, vb, .bool d], .pointer (some ⟨kb, 0, none⟩)] w (TestB w t) := h ▸ test_but kb kv i a c vb d w hk
theorem test_way' (fb tb : Nat) (fv tv : Int) (i : Int) (a c : Int) (vb : Value) (d : Bool) (w : World) (hf : w.cell? ⟨fb, 0, none⟩ = some (.int .i64 fv)) (ht : w.cell? ⟨tb, 0, none⟩ = some (.int .i64 tv)) {t : Bool} (h : (a != fv || c != tv) = t) :
    Calls Try.prog 29 #[.int .i64 i, .agg #[.int .i64 a, .int .i64 c, vb, .bool d], .pointer (some ⟨fb, 0, none⟩), .pointer (some ⟨tb, 0, none⟩)] w (TestB w t) := h ▸ test_way fb tb fv tv i a c vb d w hf ht

set_option maxRecDepth 100000 in
set_option maxHeartbeats 8000000 in
theorem those_all  (v : Value) (fs : List Fl) (w : World) (h : NetAt w v fs) (hn : fs.length ≤ 1000) (hl : ∀ f ∈ fs, f.b.length ≤ 1000000) : Calls Try.prog 27 #[.agg #[v], .func (Fn.func 31) #[] #[]] w (KeptR w (keptTo (fun _ _ => true) fs fs.length)) := by
  obtain ⟨i31, hi0, hz0, hz1, hz2⟩ := info_parts Try.info31
  have HI0 := Lib.hid hi0
  have HZ0 := Lib.hid hz0
  have HZ1 := Lib.hid hz1
  have HZ2 := Lib.hid hz2
  clear hi0 hz0 hz1 hz2
  obtain ⟨P, hP⟩ : ∃ P : Nat → Fl → Bool, P = (fun _ _ => true) := ⟨_, rfl⟩
  rw [← hP]
  have HP := Lib.hid hP
  clear hP
  obtain ⟨A, c, rfl, hc⟩ := h
  by_cases hp : 0 < fs.length
  case neg =>
    obtain rfl : fs = [] := List.eq_nil_of_length_eq_zero (by omega)
    clear hc hl hp
    go_enter Try.func27, Try.ntmps27
    go_wp2_with fail
    refine wp_loop_rounds 1 ?_
    rw [rounds_succ]
    go_wp2_with fail
    refine bodyPost_ret (v := .agg #[.slice none 0 0]) (by simp [results, Try.results27, go_sem]) rfl ⟨_, rfl, ⟨[], rfl, List.Pairwise.nil, by simp, World.ownsRow_nil _ _ _ _⟩, ?_⟩
    exact ((Below.refl _ _).alloc (Nat.le_refl _) _).alloc (by simp) _
  case pos =>
    obtain ⟨g, o, rfl, hfl⟩ := hc hp
    have HF := Lib.hid hfl
    have HL := Lib.hid hl
    clear hc hl hfl hp
    go_enter Try.func27, Try.ntmps27
    go_wp2_with fail
    go_loopg [5, 11] fs.length (fun gk v i wr => ∃ k : Nat, k + gk = fs.length ∧ i = .int .i64 k ∧ HasBlk wr (w.heap.size + 1) 26 #[.slice none 0 0] ∧ InvT w P fs k v wr)
    case atStart =>
      refine ⟨0, by omega, rfl, ?_, ⟨[], rfl, List.Pairwise.nil, by simp, World.ownsRow_nil _ _ _ _⟩, ?_⟩
      · have := HasBlk.fresh (w.alloc (.cells #[.slice (some ⟨g, o, none⟩) fs.length c] 26)) 26 #[.slice none 0 0]
        simpa using this
      · exact ((Below.refl _ _).alloc (Nat.le_refl _) _).alloc (by simp) _
    case round =>
      obtain ⟨k, hk, rfl, hR, ⟨ps, hps, hpw, hpb, hpo⟩, gr⟩ := hrel
      have HK := Lib.hid hk
      have hk' : k ≤ fs.length := by omega
      have gz := gr.size
      have HPS := Lib.hid hps
      have HPW := Lib.hid hpw
      have HPB := Lib.hid hpb
      have HPO := Lib.hid hpo
      clear hk hps hpw hpb hpo
      have hpl : ps.length ≤ k := by
        have := congrArg List.length HPS.out
        rw [List.length_map] at this
        rw [this]
        exact keptTo_len _ _ _
      by_cases hlt : k < fs.length
      case neg =>
        obtain rfl : k = fs.length := by omega
        have r0 := hR.cell 0
        have rf := hR.free 0
        simp only [List.getElem?_toArray, List.getElem?_cons_zero] at r0
        have rz := hR.lt
        have hfin : Fresh wr w.heap.size u5 (keptTo P fs fs.length) := ⟨ps, HPS.out, HPW.out, HPB.out, HPO.out⟩
        obtain ⟨sa, sn, sc, hv⟩ : ∃ sa sn sc, u5 = .slice sa sn sc := by
          rcases HPO.out.2 with ⟨h, _⟩ | ⟨g', cap, cur, h, _⟩
          · exact ⟨_, _, _, h⟩
          · exact ⟨_, _, _, h⟩
        subst hv
        have HFIN := Lib.hid hfin
        clear hfin
        go_wp2
        refine bodyPost_ret (v := .agg #[.slice sa sn sc]) (by simp [results, Try.results27, go_sem, r0]) rfl ⟨_, rfl, HFIN.out.put hR (by decide) (by decide) _ _, gr.setCell (by simp) _⟩
      case pos =>
        obtain ⟨f, hf⟩ : ∃ f, fs[k]? = some f := ⟨_, List.getElem?_eq_getElem hlt⟩
        obtain ⟨vb, c0, c1, c2, c3, hB⟩ := HF.out k f hf
        obtain ⟨bA, bc, rfl⟩ : ∃ bA bc, vb = .slice bA f.b.length bc := by obtain ⟨bA, bc, h, _⟩ := hB; exact ⟨bA, bc, h⟩
        have hfm : f.b.length ≤ 1000000 := HL.out f (List.mem_of_getElem? hf)
        have hgw : g < w.heap.size := World.block_lt_of_cell? _ _ c0
        have d0 := (gr.cell (p := ⟨g, o + k * 4, none⟩) hgw).trans c0
        have d1 := (gr.cell (p := ⟨g, o + k * 4 + 1, none⟩) hgw).trans c1
        have d2 := (gr.cell (p := ⟨g, o + k * 4 + 2, none⟩) hgw).trans c2
        have d3 := (gr.cell (p := ⟨g, o + k * 4 + 3, none⟩) hgw).trans c3
        have HB := Lib.hid (hB.later gr)
        have hgr0 : g < wr.heap.size := by omega
        have HFK := Lib.hid hf
        clear hB c0 c1 c2 c3 hf
        have hpk : Hid (true = P k f) := Lib.hid (by rw [HP.out])
        have hk0 : (0 : Int) ≤ (k : Int) := by omega
        have hk1 : (k : Int) < (fs.length : Int) := by omega
        go_wp2_with fail
        refine (test_all' _ _ _ _ _ _ hpk.out).mono ?_
        rintro e w1 ⟨rfl, hb1⟩
        have gB := HasBlk.later (HasBlk.fresh wr 31 #[.int .i64 f.fr, .int .i64 f.to, .slice bA f.b.length bc, .bool f.bad]) hb1
        have hz1 : wr.heap.size < w1.heap.size := gB.lt
        have b0 := gB.cell 0
        have b1 := gB.cell 1
        have b2 := gB.cell 2
        have b3 := gB.cell 3
        have bf2 := gB.free 2
        simp only [List.getElem?_toArray, List.getElem?_cons_zero, List.getElem?_cons_succ] at b0 b1 b2 b3
        have gr1 : Below w.heap.size w w1 := below_on (by simp; omega) (gr.alloc gz _) hb1
        have hR1 := (hR.past (.cells #[.int .i64 f.fr, .int .i64 f.to, .slice bA f.b.length bc, .bool f.bad] 31)).later hb1
        by_cases hb : P k f = true
        case neg =>
          have hb' := Bool.eq_false_iff.2 hb
          clear hb
          have hkn := keptTo_no HFK.out hb'
          have HKN := Lib.hid hkn
          clear hkn
          have hFr : Fresh wr w.heap.size u5 (keptTo P fs k) := ⟨ps, HPS.out, HPW.out, HPB.out, HPO.out⟩
          have HFR := Lib.hid ((hFr.past (.cells #[.int .i64 f.fr, .int .i64 f.to, .slice bA f.b.length bc, .bool f.bad] 31)).later hb1)
          clear hFr
          go_wp2
          go_roundg (fs.length - k - 1)
          case measure => have := HK.out; omega
          case rel => exact ⟨k + 1, by omega, by go_num, hR1, by rw [HKN.out]; exact HFR.out, gr1⟩
        case pos =>
          have hkn := keptTo_yes HFK.out hb
          have HKN := Lib.hid hkn
          clear hkn
          have HBW := (HB.out.later ((Below.refl wr.heap.size wr).alloc (Nat.le_refl _) (.cells #[.int .i64 f.fr, .int .i64 f.to, .slice bA f.b.length bc, .bool f.bad] 31))).later hb1
          go_wp2_with fail
          refine (bytes_any _ f.b _ HBW hfm).mono ?_
          rintro e w2 ⟨g2, rfl, hg2, hblk, hb2⟩
          have gB2 := gB.later hb2
          have hz2 : wr.heap.size < w2.heap.size := gB2.lt
          have c0 := gB2.cell 0
          have c1 := gB2.cell 1
          have c2 := gB2.cell 2
          have c3 := gB2.cell 3
          have cf2 := gB2.free 2
          simp only [List.getElem?_toArray, List.getElem?_cons_zero, List.getElem?_cons_succ] at c0 c1 c2 c3
          have gr2 : Below w.heap.size w w2 := below_on gr1.size gr1 hb2
          have hR2 := hR1.later hb2
          have hPO := own_below (own_below (HPO.out.alloc (.cells #[.int .i64 f.fr, .int .i64 f.to, .slice bA f.b.length bc, .bool f.bad] 31)) hb1) hb2
          have hPOn : u5.ownBlock ≠ some wr.heap.size := own_ne_new HPO.out (Nat.le_refl _)
          have hPOg : u5.ownBlock ≠ some g2 := own_ne_new HPO.out (by omega)
          have hown := (own_put hPO hPOn 2 (.slice (some ⟨g2, 0, none⟩) f.b.length f.b.length)).alloc (.cells #[.int .i64 f.fr, .int .i64 f.to, .slice (some ⟨g2, 0, none⟩) f.b.length f.b.length, .bool f.bad] 31)
          have HOWN := Lib.hid hown
          have HPOX := Lib.hid hPO
          have HG2 := Lib.hid hblk
          clear hown hPO hblk b0 b1 b2 b3 bf2
          go_wp2_with (at_builtin; refine wpList_append_own _ rfl (.tmp 24) (.tmp 26) 24 rfl w.heap.size 31 i31 _ 4 48 Try.underlying24 HI0.out HZ0.out HZ1.out HZ2.out rfl (by decide) u5 ps.length (ps.flatMap cellsOf) rfl HOWN.out ⟨w2.heap.size, 0, none⟩ 1 1 (cellsOf (f, g2)) rfl rfl ?c1 ?c2 ?c3 ?c4 ?c5 ?_)
          case c1 =>
            have hbk := HasBlk.fresh (w2.setCell ⟨wr.heap.size, 2, none⟩ (.slice (some ⟨g2, 0, none⟩) f.b.length f.b.length)) 31 #[.int .i64 f.fr, .int .i64 f.to, .slice (some ⟨g2, 0, none⟩) f.b.length f.b.length, .bool f.bad]
            rw [show (w2.setCell ⟨wr.heap.size, 2, none⟩ (.slice (some ⟨g2, 0, none⟩) f.b.length f.b.length)).heap.size = w2.heap.size from by simp] at hbk
            intro j u hj
            rw [Go.WideShapes.add_plain, Nat.zero_add, hbk.cell j]
            simpa [cellsOf] using hj
          case c2 =>
            intro u hu
            simp only [cellsOf, List.mem_cons, List.not_mem_nil, or_false] at hu
            rcases hu with rfl | rfl | rfl | rfl <;> rfl
          case c3 => simp only [maxLen]; omega
          case c4 => omega
          case c5 => have := gr2.size; simp; omega
          intro v' w3 hown' hgr _
          have hne2 : g2 ≠ wr.heap.size := by omega
          have hneR : w.heap.size + 1 ≠ wr.heap.size := by have := hR.lt; omega
          have hbel : Below wr.heap.size wr w2 := below_on (by omega) (below_on (by simp) ((Below.refl wr.heap.size wr).alloc (Nat.le_refl _) _) hb1) hb2
          have hbelW := (hbel.setCell (p := ⟨wr.heap.size, 2, none⟩) (Nat.le_refl _) (.slice (some ⟨g2, 0, none⟩) f.b.length f.b.length)).alloc (by simp; omega) (.cells #[.int .i64 f.fr, .int .i64 f.to, .slice (some ⟨g2, 0, none⟩) f.b.length f.b.length, .bool f.bad] 31)
          have hFr : Fresh w3 w.heap.size v' (keptTo P fs (k + 1)) := by
            rw [HKN.out]
            exact Fresh.more hbelW ((HG2.out.off hne2 _).past _) (by omega) gz ps HPS.out HPW.out HPB.out hPOg (fun p hp => own_ne HPO.out (HPB.out p hp).2 (by decide)) hown' hgr
          have hR3 := ((hR2.off (p := ⟨wr.heap.size, 2, none⟩) hneR (.slice (some ⟨g2, 0, none⟩) f.b.length f.b.length)).past (.cells #[.int .i64 f.fr, .int .i64 f.to, .slice (some ⟨g2, 0, none⟩) f.b.length f.b.length, .bool f.bad] 31)).grown hgr (own_ne HPO.out hR (by decide))
          have gr3 : Below w.heap.size w w3 := ((gr2.setCell (p := ⟨wr.heap.size, 2, none⟩) gz (.slice (some ⟨g2, 0, none⟩) f.b.length f.b.length)).alloc (by have := gr2.size; simp; omega) (.cells #[.int .i64 f.fr, .int .i64 f.to, .slice (some ⟨g2, 0, none⟩) f.b.length f.b.length, .bool f.bad] 31)).grown hgr (by have := gr2.size; simp; omega) (fun r hr => (World.ownsRow.lt HPO.out r hr).1)
          have HFR := Lib.hid hFr
          clear hFr hbelW hbel hown' hgr
          go_wp2
          go_roundg (fs.length - k - 1)
          case measure => have := HK.out; omega
          case rel => exact ⟨k + 1, by omega, by go_num, hR3, HFR.out, gr3⟩

set_option maxRecDepth 100000 in
set_option maxHeartbeats 8000000 in
theorem those_but (kb : Nat) (kv : Int) (v : Value) (fs : List Fl) (w : World) (h : NetAt w v fs) (hn : fs.length ≤ 1000) (hl : ∀ f ∈ fs, f.b.length ≤ 1000000) (hk : w.cell? ⟨kb, 0, none⟩ = some (.int .i64 kv)) : Calls Try.prog 27 #[.agg #[v], .func (Fn.func 28) #[] #[.pointer (some ⟨kb, 0, none⟩)]] w (KeptR w (keptTo (fun (j : Nat) _ => ((j : Int) != kv)) fs fs.length)) := by
  have HKC := Lib.hid hk
  clear hk
  obtain ⟨i31, hi0, hz0, hz1, hz2⟩ := info_parts Try.info31
  have HI0 := Lib.hid hi0
  have HZ0 := Lib.hid hz0
  have HZ1 := Lib.hid hz1
  have HZ2 := Lib.hid hz2
  clear hi0 hz0 hz1 hz2
  obtain ⟨P, hP⟩ : ∃ P : Nat → Fl → Bool, P = (fun (j : Nat) _ => ((j : Int) != kv)) := ⟨_, rfl⟩
  rw [← hP]
  have HP := Lib.hid hP
  clear hP
  obtain ⟨A, c, rfl, hc⟩ := h
  by_cases hp : 0 < fs.length
  case neg =>
    obtain rfl : fs = [] := List.eq_nil_of_length_eq_zero (by omega)
    clear hc hl hp
    go_enter Try.func27, Try.ntmps27
    go_wp2_with fail
    refine wp_loop_rounds 1 ?_
    rw [rounds_succ]
    go_wp2_with fail
    refine bodyPost_ret (v := .agg #[.slice none 0 0]) (by simp [results, Try.results27, go_sem]) rfl ⟨_, rfl, ⟨[], rfl, List.Pairwise.nil, by simp, World.ownsRow_nil _ _ _ _⟩, ?_⟩
    exact ((Below.refl _ _).alloc (Nat.le_refl _) _).alloc (by simp) _
  case pos =>
    obtain ⟨g, o, rfl, hfl⟩ := hc hp
    have HF := Lib.hid hfl
    have HL := Lib.hid hl
    clear hc hl hfl hp
    go_enter Try.func27, Try.ntmps27
    go_wp2_with fail
    go_loopg [5, 11] fs.length (fun gk v i wr => ∃ k : Nat, k + gk = fs.length ∧ i = .int .i64 k ∧ HasBlk wr (w.heap.size + 1) 26 #[.slice none 0 0] ∧ InvT w P fs k v wr)
    case atStart =>
      refine ⟨0, by omega, rfl, ?_, ⟨[], rfl, List.Pairwise.nil, by simp, World.ownsRow_nil _ _ _ _⟩, ?_⟩
      · have := HasBlk.fresh (w.alloc (.cells #[.slice (some ⟨g, o, none⟩) fs.length c] 26)) 26 #[.slice none 0 0]
        simpa using this
      · exact ((Below.refl _ _).alloc (Nat.le_refl _) _).alloc (by simp) _
    case round =>
      obtain ⟨k, hk, rfl, hR, ⟨ps, hps, hpw, hpb, hpo⟩, gr⟩ := hrel
      have HK := Lib.hid hk
      have hk' : k ≤ fs.length := by omega
      have gz := gr.size
      have HPS := Lib.hid hps
      have HPW := Lib.hid hpw
      have HPB := Lib.hid hpb
      have HPO := Lib.hid hpo
      clear hk hps hpw hpb hpo
      have hpl : ps.length ≤ k := by
        have := congrArg List.length HPS.out
        rw [List.length_map] at this
        rw [this]
        exact keptTo_len _ _ _
      by_cases hlt : k < fs.length
      case neg =>
        obtain rfl : k = fs.length := by omega
        have r0 := hR.cell 0
        have rf := hR.free 0
        simp only [List.getElem?_toArray, List.getElem?_cons_zero] at r0
        have rz := hR.lt
        have hfin : Fresh wr w.heap.size u5 (keptTo P fs fs.length) := ⟨ps, HPS.out, HPW.out, HPB.out, HPO.out⟩
        obtain ⟨sa, sn, sc, hv⟩ : ∃ sa sn sc, u5 = .slice sa sn sc := by
          rcases HPO.out.2 with ⟨h, _⟩ | ⟨g', cap, cur, h, _⟩
          · exact ⟨_, _, _, h⟩
          · exact ⟨_, _, _, h⟩
        subst hv
        have HFIN := Lib.hid hfin
        clear hfin
        go_wp2
        refine bodyPost_ret (v := .agg #[.slice sa sn sc]) (by simp [results, Try.results27, go_sem, r0]) rfl ⟨_, rfl, HFIN.out.put hR (by decide) (by decide) _ _, gr.setCell (by simp) _⟩
      case pos =>
        obtain ⟨f, hf⟩ : ∃ f, fs[k]? = some f := ⟨_, List.getElem?_eq_getElem hlt⟩
        obtain ⟨vb, c0, c1, c2, c3, hB⟩ := HF.out k f hf
        obtain ⟨bA, bc, rfl⟩ : ∃ bA bc, vb = .slice bA f.b.length bc := by obtain ⟨bA, bc, h, _⟩ := hB; exact ⟨bA, bc, h⟩
        have hfm : f.b.length ≤ 1000000 := HL.out f (List.mem_of_getElem? hf)
        have hgw : g < w.heap.size := World.block_lt_of_cell? _ _ c0
        have d0 := (gr.cell (p := ⟨g, o + k * 4, none⟩) hgw).trans c0
        have d1 := (gr.cell (p := ⟨g, o + k * 4 + 1, none⟩) hgw).trans c1
        have d2 := (gr.cell (p := ⟨g, o + k * 4 + 2, none⟩) hgw).trans c2
        have d3 := (gr.cell (p := ⟨g, o + k * 4 + 3, none⟩) hgw).trans c3
        have HB := Lib.hid (hB.later gr)
        have hgr0 : g < wr.heap.size := by omega
        have HFK := Lib.hid hf
        clear hB c0 c1 c2 c3 hf
        have hpk : Hid (((k : Int) != kv) = P k f) := Lib.hid (by rw [HP.out])
        have HCAP := Lib.hid (keep_alloc (o := .cells #[.int .i64 f.fr, .int .i64 f.to, .slice bA f.b.length bc, .bool f.bad] 31) ((gr.cell (p := ⟨kb, 0, none⟩) (World.block_lt_of_cell? _ _ HKC.out)).trans HKC.out))
        have hk0 : (0 : Int) ≤ (k : Int) := by omega
        have hk1 : (k : Int) < (fs.length : Int) := by omega
        go_wp2_with fail
        refine (test_but' _ kv _ _ _ _ _ _ HCAP.out hpk.out).mono ?_
        rintro e w1 ⟨rfl, hb1⟩
        have gB := HasBlk.later (HasBlk.fresh wr 31 #[.int .i64 f.fr, .int .i64 f.to, .slice bA f.b.length bc, .bool f.bad]) hb1
        have hz1 : wr.heap.size < w1.heap.size := gB.lt
        have b0 := gB.cell 0
        have b1 := gB.cell 1
        have b2 := gB.cell 2
        have b3 := gB.cell 3
        have bf2 := gB.free 2
        simp only [List.getElem?_toArray, List.getElem?_cons_zero, List.getElem?_cons_succ] at b0 b1 b2 b3
        have gr1 : Below w.heap.size w w1 := below_on (by simp; omega) (gr.alloc gz _) hb1
        have hR1 := (hR.past (.cells #[.int .i64 f.fr, .int .i64 f.to, .slice bA f.b.length bc, .bool f.bad] 31)).later hb1
        by_cases hb : P k f = true
        case neg =>
          have hb' := Bool.eq_false_iff.2 hb
          clear hb
          have hkn := keptTo_no HFK.out hb'
          have HKN := Lib.hid hkn
          clear hkn
          have hFr : Fresh wr w.heap.size u5 (keptTo P fs k) := ⟨ps, HPS.out, HPW.out, HPB.out, HPO.out⟩
          have HFR := Lib.hid ((hFr.past (.cells #[.int .i64 f.fr, .int .i64 f.to, .slice bA f.b.length bc, .bool f.bad] 31)).later hb1)
          clear hFr
          go_wp2
          go_roundg (fs.length - k - 1)
          case measure => have := HK.out; omega
          case rel => exact ⟨k + 1, by omega, by go_num, hR1, by rw [HKN.out]; exact HFR.out, gr1⟩
        case pos =>
          have hkn := keptTo_yes HFK.out hb
          have HKN := Lib.hid hkn
          clear hkn
          have HBW := (HB.out.later ((Below.refl wr.heap.size wr).alloc (Nat.le_refl _) (.cells #[.int .i64 f.fr, .int .i64 f.to, .slice bA f.b.length bc, .bool f.bad] 31))).later hb1
          go_wp2_with fail
          refine (bytes_any _ f.b _ HBW hfm).mono ?_
          rintro e w2 ⟨g2, rfl, hg2, hblk, hb2⟩
          have gB2 := gB.later hb2
          have hz2 : wr.heap.size < w2.heap.size := gB2.lt
          have c0 := gB2.cell 0
          have c1 := gB2.cell 1
          have c2 := gB2.cell 2
          have c3 := gB2.cell 3
          have cf2 := gB2.free 2
          simp only [List.getElem?_toArray, List.getElem?_cons_zero, List.getElem?_cons_succ] at c0 c1 c2 c3
          have gr2 : Below w.heap.size w w2 := below_on gr1.size gr1 hb2
          have hR2 := hR1.later hb2
          have hPO := own_below (own_below (HPO.out.alloc (.cells #[.int .i64 f.fr, .int .i64 f.to, .slice bA f.b.length bc, .bool f.bad] 31)) hb1) hb2
          have hPOn : u5.ownBlock ≠ some wr.heap.size := own_ne_new HPO.out (Nat.le_refl _)
          have hPOg : u5.ownBlock ≠ some g2 := own_ne_new HPO.out (by omega)
          have hown := (own_put hPO hPOn 2 (.slice (some ⟨g2, 0, none⟩) f.b.length f.b.length)).alloc (.cells #[.int .i64 f.fr, .int .i64 f.to, .slice (some ⟨g2, 0, none⟩) f.b.length f.b.length, .bool f.bad] 31)
          have HOWN := Lib.hid hown
          have HPOX := Lib.hid hPO
          have HG2 := Lib.hid hblk
          clear hown hPO hblk b0 b1 b2 b3 bf2
          go_wp2_with (at_builtin; refine wpList_append_own _ rfl (.tmp 24) (.tmp 26) 24 rfl w.heap.size 31 i31 _ 4 48 Try.underlying24 HI0.out HZ0.out HZ1.out HZ2.out rfl (by decide) u5 ps.length (ps.flatMap cellsOf) rfl HOWN.out ⟨w2.heap.size, 0, none⟩ 1 1 (cellsOf (f, g2)) rfl rfl ?c1 ?c2 ?c3 ?c4 ?c5 ?_)
          case c1 =>
            have hbk := HasBlk.fresh (w2.setCell ⟨wr.heap.size, 2, none⟩ (.slice (some ⟨g2, 0, none⟩) f.b.length f.b.length)) 31 #[.int .i64 f.fr, .int .i64 f.to, .slice (some ⟨g2, 0, none⟩) f.b.length f.b.length, .bool f.bad]
            rw [show (w2.setCell ⟨wr.heap.size, 2, none⟩ (.slice (some ⟨g2, 0, none⟩) f.b.length f.b.length)).heap.size = w2.heap.size from by simp] at hbk
            intro j u hj
            rw [Go.WideShapes.add_plain, Nat.zero_add, hbk.cell j]
            simpa [cellsOf] using hj
          case c2 =>
            intro u hu
            simp only [cellsOf, List.mem_cons, List.not_mem_nil, or_false] at hu
            rcases hu with rfl | rfl | rfl | rfl <;> rfl
          case c3 => simp only [maxLen]; omega
          case c4 => omega
          case c5 => have := gr2.size; simp; omega
          intro v' w3 hown' hgr _
          have hne2 : g2 ≠ wr.heap.size := by omega
          have hneR : w.heap.size + 1 ≠ wr.heap.size := by have := hR.lt; omega
          have hbel : Below wr.heap.size wr w2 := below_on (by omega) (below_on (by simp) ((Below.refl wr.heap.size wr).alloc (Nat.le_refl _) _) hb1) hb2
          have hbelW := (hbel.setCell (p := ⟨wr.heap.size, 2, none⟩) (Nat.le_refl _) (.slice (some ⟨g2, 0, none⟩) f.b.length f.b.length)).alloc (by simp; omega) (.cells #[.int .i64 f.fr, .int .i64 f.to, .slice (some ⟨g2, 0, none⟩) f.b.length f.b.length, .bool f.bad] 31)
          have hFr : Fresh w3 w.heap.size v' (keptTo P fs (k + 1)) := by
            rw [HKN.out]
            exact Fresh.more hbelW ((HG2.out.off hne2 _).past _) (by omega) gz ps HPS.out HPW.out HPB.out hPOg (fun p hp => own_ne HPO.out (HPB.out p hp).2 (by decide)) hown' hgr
          have hR3 := ((hR2.off (p := ⟨wr.heap.size, 2, none⟩) hneR (.slice (some ⟨g2, 0, none⟩) f.b.length f.b.length)).past (.cells #[.int .i64 f.fr, .int .i64 f.to, .slice (some ⟨g2, 0, none⟩) f.b.length f.b.length, .bool f.bad] 31)).grown hgr (own_ne HPO.out hR (by decide))
          have gr3 : Below w.heap.size w w3 := ((gr2.setCell (p := ⟨wr.heap.size, 2, none⟩) gz (.slice (some ⟨g2, 0, none⟩) f.b.length f.b.length)).alloc (by have := gr2.size; simp; omega) (.cells #[.int .i64 f.fr, .int .i64 f.to, .slice (some ⟨g2, 0, none⟩) f.b.length f.b.length, .bool f.bad] 31)).grown hgr (by have := gr2.size; simp; omega) (fun r hr => (World.ownsRow.lt HPO.out r hr).1)
          have HFR := Lib.hid hFr
          clear hFr hbelW hbel hown' hgr
          go_wp2
          go_roundg (fs.length - k - 1)
          case measure => have := HK.out; omega
          case rel => exact ⟨k + 1, by omega, by go_num, hR3, HFR.out, gr3⟩

set_option maxRecDepth 100000 in
set_option maxHeartbeats 8000000 in
theorem those_way (fb tb : Nat) (fv tv : Int) (v : Value) (fs : List Fl) (w : World) (h : NetAt w v fs) (hn : fs.length ≤ 1000) (hl : ∀ f ∈ fs, f.b.length ≤ 1000000) (hf : w.cell? ⟨fb, 0, none⟩ = some (.int .i64 fv)) (ht : w.cell? ⟨tb, 0, none⟩ = some (.int .i64 tv)) : Calls Try.prog 27 #[.agg #[v], .func (Fn.func 29) #[] #[.pointer (some ⟨fb, 0, none⟩), .pointer (some ⟨tb, 0, none⟩)]] w (KeptR w (keptTo (fun _ f => (f.fr != fv || f.to != tv)) fs fs.length)) := by
  have HFC := Lib.hid hf
  have HTC := Lib.hid ht
  clear hf ht
  obtain ⟨i31, hi0, hz0, hz1, hz2⟩ := info_parts Try.info31
  have HI0 := Lib.hid hi0
  have HZ0 := Lib.hid hz0
  have HZ1 := Lib.hid hz1
  have HZ2 := Lib.hid hz2
  clear hi0 hz0 hz1 hz2
  obtain ⟨P, hP⟩ : ∃ P : Nat → Fl → Bool, P = (fun _ f => (f.fr != fv || f.to != tv)) := ⟨_, rfl⟩
  rw [← hP]
  have HP := Lib.hid hP
  clear hP
  obtain ⟨A, c, rfl, hc⟩ := h
  by_cases hp : 0 < fs.length
  case neg =>
    obtain rfl : fs = [] := List.eq_nil_of_length_eq_zero (by omega)
    clear hc hl hp
    go_enter Try.func27, Try.ntmps27
    go_wp2_with fail
    refine wp_loop_rounds 1 ?_
    rw [rounds_succ]
    go_wp2_with fail
    refine bodyPost_ret (v := .agg #[.slice none 0 0]) (by simp [results, Try.results27, go_sem]) rfl ⟨_, rfl, ⟨[], rfl, List.Pairwise.nil, by simp, World.ownsRow_nil _ _ _ _⟩, ?_⟩
    exact ((Below.refl _ _).alloc (Nat.le_refl _) _).alloc (by simp) _
  case pos =>
    obtain ⟨g, o, rfl, hfl⟩ := hc hp
    have HF := Lib.hid hfl
    have HL := Lib.hid hl
    clear hc hl hfl hp
    go_enter Try.func27, Try.ntmps27
    go_wp2_with fail
    go_loopg [5, 11] fs.length (fun gk v i wr => ∃ k : Nat, k + gk = fs.length ∧ i = .int .i64 k ∧ HasBlk wr (w.heap.size + 1) 26 #[.slice none 0 0] ∧ InvT w P fs k v wr)
    case atStart =>
      refine ⟨0, by omega, rfl, ?_, ⟨[], rfl, List.Pairwise.nil, by simp, World.ownsRow_nil _ _ _ _⟩, ?_⟩
      · have := HasBlk.fresh (w.alloc (.cells #[.slice (some ⟨g, o, none⟩) fs.length c] 26)) 26 #[.slice none 0 0]
        simpa using this
      · exact ((Below.refl _ _).alloc (Nat.le_refl _) _).alloc (by simp) _
    case round =>
      obtain ⟨k, hk, rfl, hR, ⟨ps, hps, hpw, hpb, hpo⟩, gr⟩ := hrel
      have HK := Lib.hid hk
      have hk' : k ≤ fs.length := by omega
      have gz := gr.size
      have HPS := Lib.hid hps
      have HPW := Lib.hid hpw
      have HPB := Lib.hid hpb
      have HPO := Lib.hid hpo
      clear hk hps hpw hpb hpo
      have hpl : ps.length ≤ k := by
        have := congrArg List.length HPS.out
        rw [List.length_map] at this
        rw [this]
        exact keptTo_len _ _ _
      by_cases hlt : k < fs.length
      case neg =>
        obtain rfl : k = fs.length := by omega
        have r0 := hR.cell 0
        have rf := hR.free 0
        simp only [List.getElem?_toArray, List.getElem?_cons_zero] at r0
        have rz := hR.lt
        have hfin : Fresh wr w.heap.size u5 (keptTo P fs fs.length) := ⟨ps, HPS.out, HPW.out, HPB.out, HPO.out⟩
        obtain ⟨sa, sn, sc, hv⟩ : ∃ sa sn sc, u5 = .slice sa sn sc := by
          rcases HPO.out.2 with ⟨h, _⟩ | ⟨g', cap, cur, h, _⟩
          · exact ⟨_, _, _, h⟩
          · exact ⟨_, _, _, h⟩
        subst hv
        have HFIN := Lib.hid hfin
        clear hfin
        go_wp2
        refine bodyPost_ret (v := .agg #[.slice sa sn sc]) (by simp [results, Try.results27, go_sem, r0]) rfl ⟨_, rfl, HFIN.out.put hR (by decide) (by decide) _ _, gr.setCell (by simp) _⟩
      case pos =>
        obtain ⟨f, hf⟩ : ∃ f, fs[k]? = some f := ⟨_, List.getElem?_eq_getElem hlt⟩
        obtain ⟨vb, c0, c1, c2, c3, hB⟩ := HF.out k f hf
        obtain ⟨bA, bc, rfl⟩ : ∃ bA bc, vb = .slice bA f.b.length bc := by obtain ⟨bA, bc, h, _⟩ := hB; exact ⟨bA, bc, h⟩
        have hfm : f.b.length ≤ 1000000 := HL.out f (List.mem_of_getElem? hf)
        have hgw : g < w.heap.size := World.block_lt_of_cell? _ _ c0
        have d0 := (gr.cell (p := ⟨g, o + k * 4, none⟩) hgw).trans c0
        have d1 := (gr.cell (p := ⟨g, o + k * 4 + 1, none⟩) hgw).trans c1
        have d2 := (gr.cell (p := ⟨g, o + k * 4 + 2, none⟩) hgw).trans c2
        have d3 := (gr.cell (p := ⟨g, o + k * 4 + 3, none⟩) hgw).trans c3
        have HB := Lib.hid (hB.later gr)
        have hgr0 : g < wr.heap.size := by omega
        have HFK := Lib.hid hf
        clear hB c0 c1 c2 c3 hf
        have hpk : Hid ((f.fr != fv || f.to != tv) = P k f) := Lib.hid (by rw [HP.out])
        have HCAP := Lib.hid (keep_alloc (o := .cells #[.int .i64 f.fr, .int .i64 f.to, .slice bA f.b.length bc, .bool f.bad] 31) ((gr.cell (p := ⟨fb, 0, none⟩) (World.block_lt_of_cell? _ _ HFC.out)).trans HFC.out))
        have HCAT := Lib.hid (keep_alloc (o := .cells #[.int .i64 f.fr, .int .i64 f.to, .slice bA f.b.length bc, .bool f.bad] 31) ((gr.cell (p := ⟨tb, 0, none⟩) (World.block_lt_of_cell? _ _ HTC.out)).trans HTC.out))
        have hk0 : (0 : Int) ≤ (k : Int) := by omega
        have hk1 : (k : Int) < (fs.length : Int) := by omega
        go_wp2_with fail
        refine (test_way' _ _ fv tv _ _ _ _ _ _ HCAP.out HCAT.out hpk.out).mono ?_
        rintro e w1 ⟨rfl, hb1⟩
        have gB := HasBlk.later (HasBlk.fresh wr 31 #[.int .i64 f.fr, .int .i64 f.to, .slice bA f.b.length bc, .bool f.bad]) hb1
        have hz1 : wr.heap.size < w1.heap.size := gB.lt
        have b0 := gB.cell 0
        have b1 := gB.cell 1
        have b2 := gB.cell 2
        have b3 := gB.cell 3
        have bf2 := gB.free 2
        simp only [List.getElem?_toArray, List.getElem?_cons_zero, List.getElem?_cons_succ] at b0 b1 b2 b3
        have gr1 : Below w.heap.size w w1 := below_on (by simp; omega) (gr.alloc gz _) hb1
        have hR1 := (hR.past (.cells #[.int .i64 f.fr, .int .i64 f.to, .slice bA f.b.length bc, .bool f.bad] 31)).later hb1
        by_cases hb : P k f = true
        case neg =>
          have hb' := Bool.eq_false_iff.2 hb
          clear hb
          have hkn := keptTo_no HFK.out hb'
          have HKN := Lib.hid hkn
          clear hkn
          have hFr : Fresh wr w.heap.size u5 (keptTo P fs k) := ⟨ps, HPS.out, HPW.out, HPB.out, HPO.out⟩
          have HFR := Lib.hid ((hFr.past (.cells #[.int .i64 f.fr, .int .i64 f.to, .slice bA f.b.length bc, .bool f.bad] 31)).later hb1)
          clear hFr
          go_wp2
          go_roundg (fs.length - k - 1)
          case measure => have := HK.out; omega
          case rel => exact ⟨k + 1, by omega, by go_num, hR1, by rw [HKN.out]; exact HFR.out, gr1⟩
        case pos =>
          have hkn := keptTo_yes HFK.out hb
          have HKN := Lib.hid hkn
          clear hkn
          have HBW := (HB.out.later ((Below.refl wr.heap.size wr).alloc (Nat.le_refl _) (.cells #[.int .i64 f.fr, .int .i64 f.to, .slice bA f.b.length bc, .bool f.bad] 31))).later hb1
          go_wp2_with fail
          refine (bytes_any _ f.b _ HBW hfm).mono ?_
          rintro e w2 ⟨g2, rfl, hg2, hblk, hb2⟩
          have gB2 := gB.later hb2
          have hz2 : wr.heap.size < w2.heap.size := gB2.lt
          have c0 := gB2.cell 0
          have c1 := gB2.cell 1
          have c2 := gB2.cell 2
          have c3 := gB2.cell 3
          have cf2 := gB2.free 2
          simp only [List.getElem?_toArray, List.getElem?_cons_zero, List.getElem?_cons_succ] at c0 c1 c2 c3
          have gr2 : Below w.heap.size w w2 := below_on gr1.size gr1 hb2
          have hR2 := hR1.later hb2
          have hPO := own_below (own_below (HPO.out.alloc (.cells #[.int .i64 f.fr, .int .i64 f.to, .slice bA f.b.length bc, .bool f.bad] 31)) hb1) hb2
          have hPOn : u5.ownBlock ≠ some wr.heap.size := own_ne_new HPO.out (Nat.le_refl _)
          have hPOg : u5.ownBlock ≠ some g2 := own_ne_new HPO.out (by omega)
          have hown := (own_put hPO hPOn 2 (.slice (some ⟨g2, 0, none⟩) f.b.length f.b.length)).alloc (.cells #[.int .i64 f.fr, .int .i64 f.to, .slice (some ⟨g2, 0, none⟩) f.b.length f.b.length, .bool f.bad] 31)
          have HOWN := Lib.hid hown
          have HPOX := Lib.hid hPO
          have HG2 := Lib.hid hblk
          clear hown hPO hblk b0 b1 b2 b3 bf2
          go_wp2_with (at_builtin; refine wpList_append_own _ rfl (.tmp 24) (.tmp 26) 24 rfl w.heap.size 31 i31 _ 4 48 Try.underlying24 HI0.out HZ0.out HZ1.out HZ2.out rfl (by decide) u5 ps.length (ps.flatMap cellsOf) rfl HOWN.out ⟨w2.heap.size, 0, none⟩ 1 1 (cellsOf (f, g2)) rfl rfl ?c1 ?c2 ?c3 ?c4 ?c5 ?_)
          case c1 =>
            have hbk := HasBlk.fresh (w2.setCell ⟨wr.heap.size, 2, none⟩ (.slice (some ⟨g2, 0, none⟩) f.b.length f.b.length)) 31 #[.int .i64 f.fr, .int .i64 f.to, .slice (some ⟨g2, 0, none⟩) f.b.length f.b.length, .bool f.bad]
            rw [show (w2.setCell ⟨wr.heap.size, 2, none⟩ (.slice (some ⟨g2, 0, none⟩) f.b.length f.b.length)).heap.size = w2.heap.size from by simp] at hbk
            intro j u hj
            rw [Go.WideShapes.add_plain, Nat.zero_add, hbk.cell j]
            simpa [cellsOf] using hj
          case c2 =>
            intro u hu
            simp only [cellsOf, List.mem_cons, List.not_mem_nil, or_false] at hu
            rcases hu with rfl | rfl | rfl | rfl <;> rfl
          case c3 => simp only [maxLen]; omega
          case c4 => omega
          case c5 => have := gr2.size; simp; omega
          intro v' w3 hown' hgr _
          have hne2 : g2 ≠ wr.heap.size := by omega
          have hneR : w.heap.size + 1 ≠ wr.heap.size := by have := hR.lt; omega
          have hbel : Below wr.heap.size wr w2 := below_on (by omega) (below_on (by simp) ((Below.refl wr.heap.size wr).alloc (Nat.le_refl _) _) hb1) hb2
          have hbelW := (hbel.setCell (p := ⟨wr.heap.size, 2, none⟩) (Nat.le_refl _) (.slice (some ⟨g2, 0, none⟩) f.b.length f.b.length)).alloc (by simp; omega) (.cells #[.int .i64 f.fr, .int .i64 f.to, .slice (some ⟨g2, 0, none⟩) f.b.length f.b.length, .bool f.bad] 31)
          have hFr : Fresh w3 w.heap.size v' (keptTo P fs (k + 1)) := by
            rw [HKN.out]
            exact Fresh.more hbelW ((HG2.out.off hne2 _).past _) (by omega) gz ps HPS.out HPW.out HPB.out hPOg (fun p hp => own_ne HPO.out (HPB.out p hp).2 (by decide)) hown' hgr
          have hR3 := ((hR2.off (p := ⟨wr.heap.size, 2, none⟩) hneR (.slice (some ⟨g2, 0, none⟩) f.b.length f.b.length)).past (.cells #[.int .i64 f.fr, .int .i64 f.to, .slice (some ⟨g2, 0, none⟩) f.b.length f.b.length, .bool f.bad] 31)).grown hgr (own_ne HPO.out hR (by decide))
          have gr3 : Below w.heap.size w w3 := ((gr2.setCell (p := ⟨wr.heap.size, 2, none⟩) gz (.slice (some ⟨g2, 0, none⟩) f.b.length f.b.length)).alloc (by have := gr2.size; simp; omega) (.cells #[.int .i64 f.fr, .int .i64 f.to, .slice (some ⟨g2, 0, none⟩) f.b.length f.b.length, .bool f.bad] 31)).grown hgr (by have := gr2.size; simp; omega) (fun r hr => (World.ownsRow.lt HPO.out r hr).1)
          have HFR := Lib.hid hFr
          clear hFr hbelW hbel hown' hgr
          go_wp2
          go_roundg (fs.length - k - 1)
          case measure => have := HK.out; omega
          case rel => exact ⟨k + 1, by omega, by go_num, hR3, HFR.out, gr3⟩
end Go.Proofs.Ytiognapakadggaa
