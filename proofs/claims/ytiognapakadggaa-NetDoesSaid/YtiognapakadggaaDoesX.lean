/- NetDoes, walked where it calls: the copy of the net, then each call of the program and of the reference, one behind the other. -/
import Derived.Test.YtiognapakadggaaDoesW
import Derived.Deep.CutBlock
namespace Go.Proofs.Ytiognapakadggaa
open Go.RowKit

theorem own_cap {w : World} {base n c : Nat} {A : Option Addr} {e : TypeId} {size : Nat} {xs : List Value} (h : w.ownsRow base e size (.slice A n c) n xs) : n ≤ c := by
  rcases h.2 with ⟨hv, h0⟩ | ⟨g, cap, cur, hv, _, _, hnc, _⟩
  · omega
  · simp only [Value.slice.injEq] at hv
    omega
theorem set_same {α : Type} {l : List α} {k : Nat} {x : α} (h : l[k]? = some x) : l.set k x = l := by
  apply List.ext_getElem?
  intro j
  rw [List.getElem?_set]
  split
  · rename_i e
    subst e
    have := (List.getElem?_eq_some_iff.1 h).1
    rw [if_pos this, h]
  · rfl
theorem own_bytesAt {w : World} {base c : Nat} {A : Option Addr} {b : List UInt8} (h : w.ownsRow base 5 1 (.slice A b.length c) b.length (byteCells b)) : BytesAt w (.slice A b.length c) b := by
  rcases Nat.eq_zero_or_pos b.length with h0 | hp
  · exact ⟨A, c, rfl, fun hp => by omega⟩
  · obtain ⟨g, cc, hv⟩ := Go.Joins.ownsRow_form h hp
    simp only [Value.slice.injEq, true_and] at hv
    obtain ⟨rfl, rfl⟩ := hv
    exact (own_bytesIn h rfl).at_ rfl
/-- While the net is copied. -/
structure Cpy (w : World) (b0 b1 b7 base : Nat) (fs : List Fl) (o : Op1) (bv : Value) (A A7 : Option Addr) (c c7 : Nat) (qs : List (Fl × Value)) (W : World) : Prop where
  nbox : HasBlk W b0 26 #[.slice A fs.length c]
  obox : HasBlk W b1 41 (ocells o bv)
  own : HasBlk W b7 26 #[.slice A7 fs.length c7]
  row : W.ownsRow base 31 4 (.slice A7 fs.length c7) fs.length (qs.flatMap pcells)
  by1 : ∀ q ∈ qs, BytesAt W q.2 q.1.b
  fst : qs.map (·.1) = fs
  low : Below w.heap.size w W
  bse : w.heap.size ≤ base
theorem Cpy.done {w W : World} {b0 b1 b7 base : Nat} {fs : List Fl} {o : Op1} {bv : Value} {A A7 : Option Addr} {c c7 : Nat} {qs : List (Fl × Value)} (h : Cpy w b0 b1 b7 base fs o bv A A7 c c7 qs W) (hn : NetAt w (.slice A fs.length c) fs) (hb : BytesAt w bv o.b) : Dz w b0 b1 b7 fs o bv A A7 c c7 W := by
  have hpl := fls_len h.fst
  refine ⟨h.nbox, h.obox, h.own, hn.later h.low, ?_, hb.later h.low, h.low, own_cap h.row⟩
  have := row_netAt (v := .slice A7 fs.length c7) (by rw [hpl]; exact h.row) h.by1
  rwa [h.fst] at this
theorem Cpy.step {w W w2 : World} {b0 b1 b7 base k : Nat} {fs : List Fl} {o : Op1} {bv : Value} {A : Option Addr} {g7 c c7 : Nat} {qs : List (Fl × Value)} (h : Cpy w b0 b1 b7 base fs o bv A (some ⟨g7, 0, none⟩) c c7 qs W) {f : Fl} {v v' : Value} (hp : qs[k]? = some (f, v)) (hk : k < fs.length)
    (hb : Below W.heap.size W w2) (hby : BytesAt w2 v' f.b) : Cpy w b0 b1 b7 base fs o bv A (some ⟨g7, 0, none⟩) c c7 (qs.set k (f, v')) (w2.setCell ⟨g7, k * 4 + 2, none⟩ v') := by
  have R := own_below h.row hb
  have hpl := fls_len h.fst
  have hg : base ≤ g7 := (World.ownsRow.lt h.row g7 rfl).1
  have hcell : w2.cell? ⟨g7, k * 4 + 2, none⟩ = some v := by
    rw [R.cellAt (k * 4 + 2) (by omega), pflat qs k _ hp 2 (by omega)]
    rfl
  obtain ⟨vA, vc, hv⟩ := (h.by1 _ (List.mem_of_getElem? hp)).shape
  simp only at hv
  subst hv
  have hne : ∀ {b : Nat} {t : TypeId} {cs : Array Value}, HasBlk w2 b t cs → 31 ≠ t → b ≠ g7 := fun hB ht e => own_ne R hB ht (by simp [Value.ownBlock, e])
  refine ⟨(h.nbox.later hb).off (p := ⟨g7, k * 4 + 2, none⟩) (hne (h.nbox.later hb) (by decide)) _, (h.obox.later hb).off (p := ⟨g7, k * 4 + 2, none⟩) (hne (h.obox.later hb) (by decide)) _, (h.own.later hb).off (p := ⟨g7, k * 4 + 2, none⟩) (hne (h.own.later hb) (by decide)) _, ?_, fun q hq => ?_, ?_, (below_on h.low.size h.low hb).setCell (p := ⟨g7, k * 4 + 2, none⟩) (by have := h.bse; dsimp only; omega) _, h.bse⟩
  · rw [← pcells_put qs k f _ v' hp]
    exact (R.stored (k * 4 + 2) v').1
  · rcases List.mem_or_eq_of_mem_set hq with hq | rfl
    · exact ((h.by1 q hq).later hb).put_cell hcell _
    · exact hby.put_cell hcell _
  · rw [List.map_set, h.fst]
    have : fs[k]? = some f := by rw [← h.fst]; simp [hp]
    exact set_same this

set_option maxRecDepth 100000 in
set_option maxHeartbeats 40000000 in
theorem ndoes_light (v bv : Value) (fs : List Fl) (o : Op1) (w : World) (h : NetAt w v fs) (hb : BytesAt w bv o.b) (hok : o.ok) (hl : lightB fs = true) (hbl : o.b.length ≤ 2000) :
    Calls Try.prog 5 #[.agg #[v], .agg #[.int .i64 o.kind, .int .i64 o.i, .int .i64 o.at1, .int .i64 o.fr, .int .i64 o.tt, .int .u8 (o.by1.toNat : Int), bv]] w (Yes w) := by
  have hs := Sml.of_light hl
  have hs1 := hs.1
  obtain ⟨hi, hat, _⟩ := hok
  obtain ⟨A, c, ps, rfl, hps, hby, hsrc⟩ := h.row
  obtain ⟨bA, bc, rfl⟩ := hb.shape
  have hpl := fls_len hps
  have HN := Lib.hid h
  have HL := Lib.hid hl
  have HS := Lib.hid hs
  have HBV := Lib.hid hb
  have HPS := Lib.hid hps
  have HBY := Lib.hid hby
  have HSRC : Hid (SrcAt w A fs.length (ps.flatMap pcells)) := Lib.hid hsrc
  have HI := Lib.hid hi
  have HAT := Lib.hid hat
  clear h hl hb hs hps hby hsrc hi hat
  go_enter Try.func5, Try.ntmps5
  go_wp2_with fail
  refine (awake_any _).mono ?_
  rintro e w1 ⟨rfl, hb1⟩
  have x2 : Below w.heap.size w ((w.alloc (.cells #[.slice A fs.length c] 26)).alloc (.cells (ocells o (.slice bA o.b.length bc)) 41)) := ((Below.refl _ _).alloc (Nat.le_refl _) _).alloc (by simp) _
  have hB := ((HasBlk.fresh w 26 #[.slice A fs.length c]).past (.cells (ocells o (.slice bA o.b.length bc)) 41)).later hb1
  have hO := (HasBlk.fresh (w.alloc (.cells #[.slice A fs.length c] 26)) 41 (ocells o (.slice bA o.b.length bc))).later hb1
  simp only [World.size_alloc] at hO
  have n0 := hB.cell 0
  simp only [List.getElem?_toArray, List.getElem?_cons_zero] at n0
  have g1 : Below w.heap.size w w1 := below_on x2.size x2 hb1
  have HN1 := Lib.hid ((HN.out.later x2).later hb1)
  have HG := Lib.hid g1
  have HBO := Lib.hid (And.intro hB hO)
  clear hB hO g1 hb1 x2
  go_wp2_with fail
  refine (light_any _ fs _ HN1.out (by omega)).mono ?_
  rintro e w2 ⟨rfl, hb2⟩
  rw [HL.out]
  have HG2 := Lib.hid (below_on HG.out.size HG.out hb2)
  have HB2 := Lib.hid (And.intro (HBO.out.1.later hb2) (HBO.out.2.later hb2))
  have n1 := HB2.out.1.cell 0
  have p6 := HB2.out.2.cell 6
  simp only [List.getElem?_toArray, List.getElem?_cons_zero, List.getElem?_cons_succ] at n1 p6
  have hbl1 : ¬ (2000 : Int) < (o.b.length : Int) := by omega
  clear n0 hb2 HG HBO HN1
  go_wp2_with (at_builtin; refine app31n rfl (.const (.slice none 0 0)) (.tmp 56) rfl rfl rfl (news := ps.flatMap pcells) (by rw [pflat_length, hpl]) ?hs (pflat_one HBY.out) (by omega) ?_)
  case hs => exact HSRC.out.later HG2.out
  intro A7 c7 w3 hown3 hb3
  have x3 : Below w3.heap.size w3 (w3.alloc (.cells #[.slice A7 fs.length c7] 26)) := (Below.refl _ _).alloc (Nat.le_refl _) _
  have hC : Cpy w w.heap.size (w.heap.size + 1) w3.heap.size w2.heap.size fs o (.slice bA o.b.length bc) A A7 c c7 ps (w3.alloc (.cells #[.slice A7 fs.length c7] 26)) :=
    ⟨(HB2.out.1.later hb3).later x3, (HB2.out.2.later hb3).later x3, HasBlk.fresh w3 26 _, own_below hown3 x3, fun q hq => (HBY.out q hq).later (below_on (below_on HG2.out.size HG2.out hb3).size (below_on HG2.out.size HG2.out hb3) x3), HPS.out, below_on (below_on HG2.out.size HG2.out hb3).size (below_on HG2.out.size HG2.out hb3) x3, HG2.out.size⟩
  have HC := Lib.hid hC
  clear hC hown3 hb3 x3 n1 p6 HB2
  go_upto_region 6 with (fail)
  generalize w3.alloc (.cells #[.slice A7 fs.length c7] 26) = W at HC ⊢
  generalize w3.heap.size = b7 at HC ⊢
  go_wp2_with fail
  go_loopg [8] fs.length (fun gk i wr => ∃ (k : Nat) (qs : List (Fl × Value)), k + gk = fs.length ∧ i = .int .i64 k ∧ Cpy w w.heap.size (w.heap.size + 1) b7 w2.heap.size fs o (.slice bA o.b.length bc) A A7 c c7 qs wr)
  case atStart => exact ⟨0, ps, by omega, rfl, HC.out⟩
  case round =>
    clear HC
    obtain ⟨k, qs, hk, rfl, hC⟩ := hrel
    have HK := Lib.hid hk
    have hk' : k ≤ fs.length := by omega
    have HC := Lib.hid hC
    have n0 := hC.nbox.cell 0
    have q0 := hC.own.cell 0
    have nl := hC.nbox.lt
    have ql := hC.own.lt
    simp only [List.getElem?_toArray, List.getElem?_cons_zero] at n0 q0
    clear hk hC
    by_cases hlt : k < fs.length
    case pos =>
      as_aux_lemma =>
        have hql := fls_len HC.out.fst
        obtain ⟨⟨f, qv⟩, hq⟩ : ∃ p, qs[k]? = some p := ⟨_, List.getElem?_eq_getElem (by omega)⟩
        obtain ⟨⟨pf, pv⟩, hp⟩ : ∃ p, ps[k]? = some p := ⟨_, List.getElem?_eq_getElem (by omega)⟩
        have hff : pf = f := by
          have e1 : fs[k]? = some f := by rw [← HC.out.fst]; simp [hq]
          have e2 : fs[k]? = some pf := by rw [← HPS.out]; simp [hp]
          rw [e1] at e2
          exact (Option.some.inj e2).symm
        subst hff
        have hB := HBY.out _ (List.mem_of_getElem? hp)
        simp only at hB
        obtain ⟨fA, fc, rfl⟩ := hB.shape
        obtain ⟨vA, vc, hvv⟩ := (HC.out.by1 _ (List.mem_of_getElem? hq)).shape
        simp only at hvv
        subst hvv
        have hfl : pf.b.length ≤ 2000 := HS.out.2 pf (by have e1 : fs[k]? = some pf := (by rw [← HC.out.fst]; simp [hq]); exact List.mem_of_getElem? e1)
        obtain ⟨g, a, rfl, _⟩ := HSRC.out (by omega)
        obtain ⟨_, _, e2, _⟩ := src_cells HSRC.out (by omega) hp
        have hgw : g < w.heap.size := World.block_lt_of_cell? _ _ e2
        have d2 := (HC.out.low.cell (p := ⟨g, a + k * 4 + 2, none⟩) hgw).trans e2
        obtain ⟨g7, cc7, hv7⟩ := Go.Joins.ownsRow_form HC.out.row (by omega)
        simp only [Value.slice.injEq, true_and] at hv7
        obtain ⟨rfl, rfl⟩ := hv7
        have r2 : wr.cell? ⟨g7, k * 4 + 2, none⟩ = some (.slice vA pf.b.length vc) := by
          rw [HC.out.row.cellAt (k * 4 + 2) (by omega), pflat qs k _ hq 2 (by omega)]
          rfl
        have rf2 := HC.out.row.frozenAt (k * 4 + 2)
        have hk0 : (0 : Int) ≤ (k : Int) := by omega
        have hk1 : (k : Int) < (fs.length : Int) := by omega
        have HSB : Hid (SrcAt wr.drew fA pf.b.length (byteCells pf.b)) := Lib.hid (hB.later HC.out.low.drew).src
        have HLB : Hid ((byteCells pf.b).length = pf.b.length * 1) := Lib.hid (by rw [byteCells_length, Nat.mul_one])
        have HQ := Lib.hid hq
        have HD2 := Lib.hid d2
        clear hB e2 hp hq
        go_upto_region 9 with (fail)
        go_region_law (refine step5n (by rfl) (.const (.slice none 0 0)) (.tmp 74) (by rfl) (by rfl) (by rfl) (news := byteCells pf.b) HLB.out HSB.out (byteCells_one _) (by omega) ?_; intro B9 cb9 w9 hown9 hb9; have hb9' : Below wr.heap.size wr w9 := below_on (W := wr.drew) (Nat.le_refl _) (Below.refl wr.heap.size wr).drew hb9; have n0 := cell_later hb9' n0; have q0 := cell_later hb9' q0; have r2 := cell_later hb9' r2; have rf2 := (own_below HC.out.row hb9').frozenAt (k * 4 + 2); have HC9 := Lib.hid (HC.out.step HQ.out hlt hb9' (own_bytesAt hown9)); clear hown9 hb9 hb9')
        all_goals
          go_wp2_with fail
          go_roundg (fs.length - k - 1)
          case measure => have := HK.out; omega
          case rel => exact ⟨k + 1, _, by have := HK.out; omega, by go_num, HC9.out⟩
    case neg =>
      as_aux_lemma =>
        obtain rfl : k = fs.length := by omega
        have HD := Lib.hid (HC.out.done HN.out HBV.out)
        clear HC n0 q0 nl ql HBY HSRC HPS hlt hk' HK
        have n0 := HD.out.nbox.cell 0
        have q0 := HD.out.own.cell 0
        have o1 := HD.out.obox.cell 1
        have o2 := HD.out.obox.cell 2
        have o3 := HD.out.obox.cell 3
        have o4 := HD.out.obox.cell 4
        have o5 := HD.out.obox.cell 5
        have o6 := HD.out.obox.cell 6
        simp only [List.getElem?_toArray, List.getElem?_cons_zero, List.getElem?_cons_succ] at n0 q0 o1 o2 o3 o4 o5 o6
        generalize w.heap.size + 1 = b1 at HD n0 q0 o1 o2 o3 o4 o5 o6 ⊢
        generalize hb0 : w.heap.size = b0 at HD n0 q0 o1 o2 o3 o4 o5 o6 ⊢
        obtain ⟨LS, okS, hlS, pS, rS⟩ := send_agree fs HS.out o.fr o.tt o.b hbl
        obtain ⟨LT, fT, eT, hlT, pT, rT⟩ := take_agree fs HS.out o.i HI.out
        obtain ⟨LD, eD, hlD, pD, rD⟩ := drop_agree fs HS.out o.i HI.out
        obtain ⟨LU, eU, hlU, pU, rU⟩ := double_agree fs HS.out o.i HI.out
        obtain ⟨LW, eW, hlW, pW, rW⟩ := turn_agree fs HS.out o.i o.at1 o.by1 HI.out HAT.out
        obtain ⟨LC, hlC, pC, rC⟩ := clear_agree fs HS.out o.fr o.tt
        have PS := Lib.hid pS
        have RS := Lib.hid rS
        have PT := Lib.hid pT
        have RT := Lib.hid rT
        have PD := Lib.hid pD
        have RD := Lib.hid rD
        have PU := Lib.hid pU
        have RU := Lib.hid rU
        have PW := Lib.hid pW
        have RW := Lib.hid rW
        have PC := Lib.hid pC
        have RC := Lib.hid rC
        clear pS rS pT rT pD rD pU rU pW rW pC rC HS HI HAT HL HBV HN HG2
        go_upto_region 10 with (fail)
        go_wp2_with fail
        refine (PS.out _ _ _ HD.out.net HD.out.by1).mono ?_
        rintro e w1x ⟨v, rfl, hn, hb⟩
        obtain ⟨Aa, ca, rfl⟩ := hn.shape
        have x : Below w1x.heap.size w1x (w1x.alloc (.cells #[.slice Aa LS.length ca] 26)) := (Below.refl _ _).alloc (Nat.le_refl _) _
        replace HD := Lib.hid ((HD.out.later hb).later x)
        have Ba := Lib.hid (HasBlk.fresh w1x 26 #[.slice Aa LS.length ca])
        have Na := Lib.hid (hn.later x)
        clear hn hb x n0 q0 o1 o2 o3 o4 o5 o6
        go_upto_region 11 with (fail)
        generalize w1x.alloc (.cells #[.slice Aa LS.length ca] 26) = W1x at HD Ba Na  ⊢
        generalize w1x.heap.size = bxa at Ba ⊢
        have n0 := HD.out.nbox.cell 0
        have q0 := HD.out.own.cell 0
        have o1 := HD.out.obox.cell 1
        have o2 := HD.out.obox.cell 2
        have o3 := HD.out.obox.cell 3
        have o4 := HD.out.obox.cell 4
        have o5 := HD.out.obox.cell 5
        have o6 := HD.out.obox.cell 6
        simp only [List.getElem?_toArray, List.getElem?_cons_zero, List.getElem?_cons_succ] at n0 q0 o1 o2 o3 o4 o5 o6
        go_wp2_with fail
        refine (RS.out _ _ _ HD.out.net7 HD.out.by1).mono ?_
        rintro e w2x ⟨v, rfl, hn, hb⟩
        obtain ⟨Ac, cc, rfl⟩ := hn.shape
        have x : Below w2x.heap.size w2x (w2x.alloc (.cells #[.slice Ac LS.length cc] 26)) := (Below.refl _ _).alloc (Nat.le_refl _) _
        replace HD := Lib.hid ((HD.out.later hb).later x)
        have Bc := Lib.hid (HasBlk.fresh w2x 26 #[.slice Ac LS.length cc])
        have Nc := Lib.hid (hn.later x)
        replace Ba := Lib.hid ((Ba.out.later hb).later x)
        replace Na := Lib.hid ((Na.out.later hb).later x)
        clear hn hb x n0 q0 o1 o2 o3 o4 o5 o6
        go_upto_region 12 with (fail)
        generalize w2x.alloc (.cells #[.slice Ac LS.length cc] 26) = W2x at HD Bc Nc Ba Na ⊢
        generalize w2x.heap.size = bxc at Bc ⊢
        have n0 := HD.out.nbox.cell 0
        have q0 := HD.out.own.cell 0
        have o1 := HD.out.obox.cell 1
        have o2 := HD.out.obox.cell 2
        have o3 := HD.out.obox.cell 3
        have o4 := HD.out.obox.cell 4
        have o5 := HD.out.obox.cell 5
        have o6 := HD.out.obox.cell 6
        simp only [List.getElem?_toArray, List.getElem?_cons_zero, List.getElem?_cons_succ] at n0 q0 o1 o2 o3 o4 o5 o6
        have ka := Ba.out.cell 0
        have kb := Bc.out.cell 0
        simp only [List.getElem?_toArray, List.getElem?_cons_zero] at ka kb
        go_wp2_with fail
        refine (same_eq _ _ LS _ Na.out Nc.out hlS).mono ?_
        rintro e w3x ⟨rfl, hb⟩
        replace HD := Lib.hid (HD.out.later hb)
        clear hb ka kb n0 q0 o1 o2 o3 o4 o5 o6 Ba Na Bc Nc
        go_upto_region 13 with (fail)
        have n0 := HD.out.nbox.cell 0
        have q0 := HD.out.own.cell 0
        have o1 := HD.out.obox.cell 1
        have o2 := HD.out.obox.cell 2
        have o3 := HD.out.obox.cell 3
        have o4 := HD.out.obox.cell 4
        have o5 := HD.out.obox.cell 5
        have o6 := HD.out.obox.cell 6
        simp only [List.getElem?_toArray, List.getElem?_cons_zero, List.getElem?_cons_succ] at n0 q0 o1 o2 o3 o4 o5 o6
        go_wp2_with fail
        refine (PT.out _ _ HD.out.net).mono ?_
        rintro e w4x ⟨v, Fe, de, rfl, hn, hy, hb⟩
        obtain ⟨Ae, ce, rfl⟩ := hn.shape
        have x : Below w4x.heap.size w4x ((w4x.alloc (.cells #[.slice Ae LT.length ce] 26)).alloc (.cells #[.int .i64 fT.fr, .int .i64 fT.to, .slice Fe fT.b.length de, .bool fT.bad] 31)) := ((Below.refl _ _).alloc (Nat.le_refl _) _).alloc (by simp) _
        replace HD := Lib.hid ((HD.out.later hb).later x)
        have Be := Lib.hid ((HasBlk.fresh w4x 26 #[.slice Ae LT.length ce]).past (.cells #[.int .i64 fT.fr, .int .i64 fT.to, .slice Fe fT.b.length de, .bool fT.bad] 31))
        have Pe := Lib.hid (show HasBlk ((w4x.alloc (.cells #[.slice Ae LT.length ce] 26)).alloc (.cells #[.int .i64 fT.fr, .int .i64 fT.to, .slice Fe fT.b.length de, .bool fT.bad] 31)) (w4x.heap.size + 1) 31 #[.int .i64 fT.fr, .int .i64 fT.to, .slice Fe fT.b.length de, .bool fT.bad] by have := HasBlk.fresh (w4x.alloc (.cells #[.slice Ae LT.length ce] 26)) 31 #[.int .i64 fT.fr, .int .i64 fT.to, .slice Fe fT.b.length de, .bool fT.bad]; simpa using this)
        have Ne := Lib.hid (hn.later x)
        have Ye := Lib.hid (hy.later x)
        clear hn hy hb x n0 q0 o1 o2 o3 o4 o5 o6
        go_upto_region 14 with (fail)
        generalize (w4x.alloc (.cells #[.slice Ae LT.length ce] 26)).alloc (.cells #[.int .i64 fT.fr, .int .i64 fT.to, .slice Fe fT.b.length de, .bool fT.bad] 31) = W4x at HD Be Pe Ne Ye  ⊢
        generalize w4x.heap.size + 1 = pxe at Pe ⊢
        generalize w4x.heap.size = bxe at Be ⊢
        have n0 := HD.out.nbox.cell 0
        have q0 := HD.out.own.cell 0
        have o1 := HD.out.obox.cell 1
        have o2 := HD.out.obox.cell 2
        have o3 := HD.out.obox.cell 3
        have o4 := HD.out.obox.cell 4
        have o5 := HD.out.obox.cell 5
        have o6 := HD.out.obox.cell 6
        simp only [List.getElem?_toArray, List.getElem?_cons_zero, List.getElem?_cons_succ] at n0 q0 o1 o2 o3 o4 o5 o6
        go_wp2_with fail
        refine (RT.out _ _ _ HD.out.net7 HD.out.cap).mono ?_
        rintro e w5x ⟨v, Fh, dh, rfl, hn, hy, hb⟩
        obtain ⟨Ah, ch, rfl⟩ := hn.shape
        have x : Below w5x.heap.size w5x ((w5x.alloc (.cells #[.slice Ah LT.length ch] 26)).alloc (.cells #[.int .i64 fT.fr, .int .i64 fT.to, .slice Fh fT.b.length dh, .bool fT.bad] 31)) := ((Below.refl _ _).alloc (Nat.le_refl _) _).alloc (by simp) _
        replace HD := Lib.hid ((HD.out.later hb).later x)
        have Bh := Lib.hid ((HasBlk.fresh w5x 26 #[.slice Ah LT.length ch]).past (.cells #[.int .i64 fT.fr, .int .i64 fT.to, .slice Fh fT.b.length dh, .bool fT.bad] 31))
        have Ph := Lib.hid (show HasBlk ((w5x.alloc (.cells #[.slice Ah LT.length ch] 26)).alloc (.cells #[.int .i64 fT.fr, .int .i64 fT.to, .slice Fh fT.b.length dh, .bool fT.bad] 31)) (w5x.heap.size + 1) 31 #[.int .i64 fT.fr, .int .i64 fT.to, .slice Fh fT.b.length dh, .bool fT.bad] by have := HasBlk.fresh (w5x.alloc (.cells #[.slice Ah LT.length ch] 26)) 31 #[.int .i64 fT.fr, .int .i64 fT.to, .slice Fh fT.b.length dh, .bool fT.bad]; simpa using this)
        have Nh := Lib.hid (hn.later x)
        have Yh := Lib.hid (hy.later x)
        replace Be := Lib.hid ((Be.out.later hb).later x)
        replace Ne := Lib.hid ((Ne.out.later hb).later x)
        replace Pe := Lib.hid ((Pe.out.later hb).later x)
        replace Ye := Lib.hid ((Ye.out.later hb).later x)
        clear hn hy hb x n0 q0 o1 o2 o3 o4 o5 o6
        go_upto_region 15 with (fail)
        generalize (w5x.alloc (.cells #[.slice Ah LT.length ch] 26)).alloc (.cells #[.int .i64 fT.fr, .int .i64 fT.to, .slice Fh fT.b.length dh, .bool fT.bad] 31) = W5x at HD Bh Ph Nh Yh Be Ne Pe Ye ⊢
        generalize w5x.heap.size + 1 = pxh at Ph ⊢
        generalize w5x.heap.size = bxh at Bh ⊢
        have n0 := HD.out.nbox.cell 0
        have q0 := HD.out.own.cell 0
        have o1 := HD.out.obox.cell 1
        have o2 := HD.out.obox.cell 2
        have o3 := HD.out.obox.cell 3
        have o4 := HD.out.obox.cell 4
        have o5 := HD.out.obox.cell 5
        have o6 := HD.out.obox.cell 6
        simp only [List.getElem?_toArray, List.getElem?_cons_zero, List.getElem?_cons_succ] at n0 q0 o1 o2 o3 o4 o5 o6
        have ka := Be.out.cell 0
        have kb := Bh.out.cell 0
        simp only [List.getElem?_toArray, List.getElem?_cons_zero] at ka kb
        go_wp2_with fail
        refine (same_eq _ _ LT _ Ne.out Nh.out hlT).mono ?_
        rintro e w6x ⟨rfl, hb⟩
        replace HD := Lib.hid (HD.out.later hb)
        replace Pe := Lib.hid (Pe.out.later hb)
        replace Ye := Lib.hid (Ye.out.later hb)
        replace Ph := Lib.hid (Ph.out.later hb)
        replace Yh := Lib.hid (Yh.out.later hb)
        clear hb ka kb n0 q0 o1 o2 o3 o4 o5 o6 Be Ne Bh Nh
        go_upto_region 16 with (fail)
        have n0 := HD.out.nbox.cell 0
        have q0 := HD.out.own.cell 0
        have o1 := HD.out.obox.cell 1
        have o2 := HD.out.obox.cell 2
        have o3 := HD.out.obox.cell 3
        have o4 := HD.out.obox.cell 4
        have o5 := HD.out.obox.cell 5
        have o6 := HD.out.obox.cell 6
        simp only [List.getElem?_toArray, List.getElem?_cons_zero, List.getElem?_cons_succ] at n0 q0 o1 o2 o3 o4 o5 o6
        have ka0 := Pe.out.cell 0
        have ka1 := Pe.out.cell 1
        have ka2 := Pe.out.cell 2
        have ka3 := Pe.out.cell 3
        have kb0 := Ph.out.cell 0
        have kb1 := Ph.out.cell 1
        have kb2 := Ph.out.cell 2
        have kb3 := Ph.out.cell 3
        simp only [List.getElem?_toArray, List.getElem?_cons_zero, List.getElem?_cons_succ] at ka0 ka1 ka2 ka3 kb0 kb1 kb2 kb3
        have hone : oneB fT fT = true := by simp [oneB]
        have HONE := Lib.hid hone
        clear hone
        go_wp2_with fail
        refine (one_any fT fT _ _ _ _ _ Ye.out Yh.out).mono ?_
        rintro e w7x ⟨rfl, hb⟩
        rw [HONE.out]
        replace HD := Lib.hid (HD.out.later hb)
        clear hb ka0 ka1 ka2 ka3 kb0 kb1 kb2 kb3 n0 q0 o1 o2 o3 o4 o5 o6 Pe Ye Ph Yh HONE
        go_upto_region 17 with (fail)
        have n0 := HD.out.nbox.cell 0
        have q0 := HD.out.own.cell 0
        have o1 := HD.out.obox.cell 1
        have o2 := HD.out.obox.cell 2
        have o3 := HD.out.obox.cell 3
        have o4 := HD.out.obox.cell 4
        have o5 := HD.out.obox.cell 5
        have o6 := HD.out.obox.cell 6
        simp only [List.getElem?_toArray, List.getElem?_cons_zero, List.getElem?_cons_succ] at n0 q0 o1 o2 o3 o4 o5 o6
        go_wp2_with fail
        refine (PD.out _ _ HD.out.net).mono ?_
        rintro e w8x ⟨v, rfl, hn, hb⟩
        obtain ⟨Ak, ck, rfl⟩ := hn.shape
        have x : Below w8x.heap.size w8x (w8x.alloc (.cells #[.slice Ak LD.length ck] 26)) := (Below.refl _ _).alloc (Nat.le_refl _) _
        replace HD := Lib.hid ((HD.out.later hb).later x)
        have Bk := Lib.hid (HasBlk.fresh w8x 26 #[.slice Ak LD.length ck])
        have Nk := Lib.hid (hn.later x)
        clear hn hb x n0 q0 o1 o2 o3 o4 o5 o6
        go_upto_region 18 with (fail)
        generalize w8x.alloc (.cells #[.slice Ak LD.length ck] 26) = W8x at HD Bk Nk  ⊢
        generalize w8x.heap.size = bxk at Bk ⊢
        have n0 := HD.out.nbox.cell 0
        have q0 := HD.out.own.cell 0
        have o1 := HD.out.obox.cell 1
        have o2 := HD.out.obox.cell 2
        have o3 := HD.out.obox.cell 3
        have o4 := HD.out.obox.cell 4
        have o5 := HD.out.obox.cell 5
        have o6 := HD.out.obox.cell 6
        simp only [List.getElem?_toArray, List.getElem?_cons_zero, List.getElem?_cons_succ] at n0 q0 o1 o2 o3 o4 o5 o6
        go_wp2_with fail
        refine (RD.out _ _ _ HD.out.net7 HD.out.cap).mono ?_
        rintro e w9x ⟨v, rfl, hn, hb⟩
        obtain ⟨Am, cm, rfl⟩ := hn.shape
        have x : Below w9x.heap.size w9x (w9x.alloc (.cells #[.slice Am LD.length cm] 26)) := (Below.refl _ _).alloc (Nat.le_refl _) _
        replace HD := Lib.hid ((HD.out.later hb).later x)
        have Bm := Lib.hid (HasBlk.fresh w9x 26 #[.slice Am LD.length cm])
        have Nm := Lib.hid (hn.later x)
        replace Bk := Lib.hid ((Bk.out.later hb).later x)
        replace Nk := Lib.hid ((Nk.out.later hb).later x)
        clear hn hb x n0 q0 o1 o2 o3 o4 o5 o6
        go_upto_region 19 with (fail)
        generalize w9x.alloc (.cells #[.slice Am LD.length cm] 26) = W9x at HD Bm Nm Bk Nk ⊢
        generalize w9x.heap.size = bxm at Bm ⊢
        have n0 := HD.out.nbox.cell 0
        have q0 := HD.out.own.cell 0
        have o1 := HD.out.obox.cell 1
        have o2 := HD.out.obox.cell 2
        have o3 := HD.out.obox.cell 3
        have o4 := HD.out.obox.cell 4
        have o5 := HD.out.obox.cell 5
        have o6 := HD.out.obox.cell 6
        simp only [List.getElem?_toArray, List.getElem?_cons_zero, List.getElem?_cons_succ] at n0 q0 o1 o2 o3 o4 o5 o6
        have ka := Bk.out.cell 0
        have kb := Bm.out.cell 0
        simp only [List.getElem?_toArray, List.getElem?_cons_zero] at ka kb
        go_wp2_with fail
        refine (same_eq _ _ LD _ Nk.out Nm.out hlD).mono ?_
        rintro e w10x ⟨rfl, hb⟩
        replace HD := Lib.hid (HD.out.later hb)
        clear hb ka kb n0 q0 o1 o2 o3 o4 o5 o6 Bk Nk Bm Nm
        go_upto_region 20 with (fail)
        have n0 := HD.out.nbox.cell 0
        have q0 := HD.out.own.cell 0
        have o1 := HD.out.obox.cell 1
        have o2 := HD.out.obox.cell 2
        have o3 := HD.out.obox.cell 3
        have o4 := HD.out.obox.cell 4
        have o5 := HD.out.obox.cell 5
        have o6 := HD.out.obox.cell 6
        simp only [List.getElem?_toArray, List.getElem?_cons_zero, List.getElem?_cons_succ] at n0 q0 o1 o2 o3 o4 o5 o6
        go_wp2_with fail
        refine (PU.out _ _ HD.out.net).mono ?_
        rintro e w11x ⟨v, rfl, hn, hb⟩
        obtain ⟨Aq, cq, rfl⟩ := hn.shape
        have x : Below w11x.heap.size w11x (w11x.alloc (.cells #[.slice Aq LU.length cq] 26)) := (Below.refl _ _).alloc (Nat.le_refl _) _
        replace HD := Lib.hid ((HD.out.later hb).later x)
        have Bq := Lib.hid (HasBlk.fresh w11x 26 #[.slice Aq LU.length cq])
        have Nq := Lib.hid (hn.later x)
        clear hn hb x n0 q0 o1 o2 o3 o4 o5 o6
        go_upto_region 21 with (fail)
        generalize w11x.alloc (.cells #[.slice Aq LU.length cq] 26) = W11x at HD Bq Nq  ⊢
        generalize w11x.heap.size = bxq at Bq ⊢
        have n0 := HD.out.nbox.cell 0
        have q0 := HD.out.own.cell 0
        have o1 := HD.out.obox.cell 1
        have o2 := HD.out.obox.cell 2
        have o3 := HD.out.obox.cell 3
        have o4 := HD.out.obox.cell 4
        have o5 := HD.out.obox.cell 5
        have o6 := HD.out.obox.cell 6
        simp only [List.getElem?_toArray, List.getElem?_cons_zero, List.getElem?_cons_succ] at n0 q0 o1 o2 o3 o4 o5 o6
        go_wp2_with fail
        refine (RU.out _ _ HD.out.net7).mono ?_
        rintro e w12x ⟨v, rfl, hn, hb⟩
        obtain ⟨As, cs, rfl⟩ := hn.shape
        have x : Below w12x.heap.size w12x (w12x.alloc (.cells #[.slice As LU.length cs] 26)) := (Below.refl _ _).alloc (Nat.le_refl _) _
        replace HD := Lib.hid ((HD.out.later hb).later x)
        have Bs := Lib.hid (HasBlk.fresh w12x 26 #[.slice As LU.length cs])
        have Ns := Lib.hid (hn.later x)
        replace Bq := Lib.hid ((Bq.out.later hb).later x)
        replace Nq := Lib.hid ((Nq.out.later hb).later x)
        clear hn hb x n0 q0 o1 o2 o3 o4 o5 o6
        go_upto_region 22 with (fail)
        generalize w12x.alloc (.cells #[.slice As LU.length cs] 26) = W12x at HD Bs Ns Bq Nq ⊢
        generalize w12x.heap.size = bxs at Bs ⊢
        have n0 := HD.out.nbox.cell 0
        have q0 := HD.out.own.cell 0
        have o1 := HD.out.obox.cell 1
        have o2 := HD.out.obox.cell 2
        have o3 := HD.out.obox.cell 3
        have o4 := HD.out.obox.cell 4
        have o5 := HD.out.obox.cell 5
        have o6 := HD.out.obox.cell 6
        simp only [List.getElem?_toArray, List.getElem?_cons_zero, List.getElem?_cons_succ] at n0 q0 o1 o2 o3 o4 o5 o6
        have ka := Bq.out.cell 0
        have kb := Bs.out.cell 0
        simp only [List.getElem?_toArray, List.getElem?_cons_zero] at ka kb
        go_wp2_with fail
        refine (same_eq _ _ LU _ Nq.out Ns.out hlU).mono ?_
        rintro e w13x ⟨rfl, hb⟩
        replace HD := Lib.hid (HD.out.later hb)
        clear hb ka kb n0 q0 o1 o2 o3 o4 o5 o6 Bq Nq Bs Ns
        go_upto_region 23 with (fail)
        have n0 := HD.out.nbox.cell 0
        have q0 := HD.out.own.cell 0
        have o1 := HD.out.obox.cell 1
        have o2 := HD.out.obox.cell 2
        have o3 := HD.out.obox.cell 3
        have o4 := HD.out.obox.cell 4
        have o5 := HD.out.obox.cell 5
        have o6 := HD.out.obox.cell 6
        simp only [List.getElem?_toArray, List.getElem?_cons_zero, List.getElem?_cons_succ] at n0 q0 o1 o2 o3 o4 o5 o6
        go_wp2_with fail
        refine (PW.out _ _ HD.out.net).mono ?_
        rintro e w14x ⟨v, rfl, hn, hb⟩
        obtain ⟨Au, cu, rfl⟩ := hn.shape
        have x : Below w14x.heap.size w14x (w14x.alloc (.cells #[.slice Au LW.length cu] 26)) := (Below.refl _ _).alloc (Nat.le_refl _) _
        replace HD := Lib.hid ((HD.out.later hb).later x)
        have Bu := Lib.hid (HasBlk.fresh w14x 26 #[.slice Au LW.length cu])
        have Nu := Lib.hid (hn.later x)
        clear hn hb x n0 q0 o1 o2 o3 o4 o5 o6
        go_upto_region 24 with (fail)
        generalize w14x.alloc (.cells #[.slice Au LW.length cu] 26) = W14x at HD Bu Nu  ⊢
        generalize w14x.heap.size = bxu at Bu ⊢
        have n0 := HD.out.nbox.cell 0
        have q0 := HD.out.own.cell 0
        have o1 := HD.out.obox.cell 1
        have o2 := HD.out.obox.cell 2
        have o3 := HD.out.obox.cell 3
        have o4 := HD.out.obox.cell 4
        have o5 := HD.out.obox.cell 5
        have o6 := HD.out.obox.cell 6
        simp only [List.getElem?_toArray, List.getElem?_cons_zero, List.getElem?_cons_succ] at n0 q0 o1 o2 o3 o4 o5 o6
        go_wp2_with fail
        refine (RW.out _ _ HD.out.net7).mono ?_
        rintro e w15x ⟨v, rfl, hn, hb⟩
        obtain ⟨Aw, cw, rfl⟩ := hn.shape
        have x : Below w15x.heap.size w15x (w15x.alloc (.cells #[.slice Aw LW.length cw] 26)) := (Below.refl _ _).alloc (Nat.le_refl _) _
        replace HD := Lib.hid ((HD.out.later hb).later x)
        have Bw := Lib.hid (HasBlk.fresh w15x 26 #[.slice Aw LW.length cw])
        have Nw := Lib.hid (hn.later x)
        replace Bu := Lib.hid ((Bu.out.later hb).later x)
        replace Nu := Lib.hid ((Nu.out.later hb).later x)
        clear hn hb x n0 q0 o1 o2 o3 o4 o5 o6
        go_upto_region 25 with (fail)
        generalize w15x.alloc (.cells #[.slice Aw LW.length cw] 26) = W15x at HD Bw Nw Bu Nu ⊢
        generalize w15x.heap.size = bxw at Bw ⊢
        have n0 := HD.out.nbox.cell 0
        have q0 := HD.out.own.cell 0
        have o1 := HD.out.obox.cell 1
        have o2 := HD.out.obox.cell 2
        have o3 := HD.out.obox.cell 3
        have o4 := HD.out.obox.cell 4
        have o5 := HD.out.obox.cell 5
        have o6 := HD.out.obox.cell 6
        simp only [List.getElem?_toArray, List.getElem?_cons_zero, List.getElem?_cons_succ] at n0 q0 o1 o2 o3 o4 o5 o6
        have ka := Bu.out.cell 0
        have kb := Bw.out.cell 0
        simp only [List.getElem?_toArray, List.getElem?_cons_zero] at ka kb
        go_wp2_with fail
        refine (same_eq _ _ LW _ Nu.out Nw.out hlW).mono ?_
        rintro e w16x ⟨rfl, hb⟩
        replace HD := Lib.hid (HD.out.later hb)
        clear hb ka kb n0 q0 o1 o2 o3 o4 o5 o6 Bu Nu Bw Nw
        go_upto_region 26 with (fail)
        have n0 := HD.out.nbox.cell 0
        have q0 := HD.out.own.cell 0
        have o1 := HD.out.obox.cell 1
        have o2 := HD.out.obox.cell 2
        have o3 := HD.out.obox.cell 3
        have o4 := HD.out.obox.cell 4
        have o5 := HD.out.obox.cell 5
        have o6 := HD.out.obox.cell 6
        simp only [List.getElem?_toArray, List.getElem?_cons_zero, List.getElem?_cons_succ] at n0 q0 o1 o2 o3 o4 o5 o6
        have HDd := Lib.hid (HD.out.later (Below.refl w16x.heap.size w16x).drew)
        go_cut [37] (fun q wx => q = .bool true ∧ Dz w b0 b1 b7 fs o (.slice bA o.b.length bc) A A7 c c7 wx)
        case first =>
          go_region_held3 (fun w' => w'.cell? ⟨b0, 0, none⟩ = some (.slice A fs.length c) ∧ w'.cell? ⟨b1, 3, none⟩ = some (.int .i64 o.fr) ∧ w'.cell? ⟨b1, 4, none⟩ = some (.int .i64 o.tt) ∧ w'.cell? ⟨b7, 0, none⟩ = some (.slice A7 fs.length c7))
            ((refine ⟨?_, ?_, ?_, ?_⟩ <;> repeat (first | (with_reducible assumption) | (with_reducible refine keep_drew ?_) | (with_reducible refine cell_later hb5 ?_) | (with_reducible refine cell_later hbc ?_) | (with_reducible refine cell_later hbr ?_))))
            (first
              | (go_at_call 11; (first | refine (PC.out _ _ HDd.out.net).mono ?_ | refine (PC.out _ _ HDr.out.net).mono ?_); rintro e wc ⟨vc, rfl, hnc, hbc⟩; obtain ⟨Ac, cc, rfl⟩ := hnc.shape; have HNc := Lib.hid hnc; (first | (have HDc := Lib.hid (HDr.out.later hbc)) | (have HDc := Lib.hid (HDd.out.later hbc))); (try (have HNr := Lib.hid (HNr.out.later hbc))); clear hnc)
              | (go_at_call 22; (first | refine (RC.out _ _ HDd.out.net7).mono ?_ | refine (RC.out _ _ HDc.out.net7).mono ?_); rintro e wr2 ⟨vr, rfl, hnr, hbr⟩; obtain ⟨Ar, cr, rfl⟩ := hnr.shape; have HNr := Lib.hid hnr; (first | (have HDr := Lib.hid (HDc.out.later hbr)) | (have HDr := Lib.hid (HDd.out.later hbr))); (try (have HNc := Lib.hid (HNc.out.later hbr))); clear hnr)
              | (go_at_call 14; refine (same_eq _ _ LC _ HNc.out HNr.out hlC).mono ?_; rintro e w5 ⟨rfl, hb5⟩; (first | (have HD5 := Lib.hid (HDr.out.later hb5)) | (have HD5 := Lib.hid (HDc.out.later hb5)))))
          all_goals
            go_wp2_with fail
            go_meet
            case rel => exact ⟨rfl, HD5.out⟩
        case rest =>
          obtain ⟨rfl, hD⟩ := hcut
          clear HD HDd n0 q0 o1 o2 o3 o4 o5 o6
          have HD := Lib.hid hD
          clear hD
          have n0 := HD.out.nbox.cell 0
          have q0 := HD.out.own.cell 0
          simp only [List.getElem?_toArray, List.getElem?_cons_zero] at n0 q0
          go_wp2_with fail
          refine (same_eq _ _ fs _ HD.out.net HD.out.net7 (by omega)).mono ?_
          rintro e w6 ⟨rfl, hb6⟩
          have HE := Lib.hid (HD.out.later hb6)
          clear hb6 HD n0 q0
          go_wp2_with fail
          go_ret
          exact ⟨rfl, HE.out.low⟩

theorem ndoes_any (v bv : Value) (fs : List Fl) (o : Op1) (w : World) (h : NetAt w v fs) (hb : BytesAt w bv o.b) (hok : o.ok) (hn : fs.length ≤ 9223372036854775807) :
    Calls Try.prog 5 #[.agg #[v], .agg #[.int .i64 o.kind, .int .i64 o.i, .int .i64 o.at1, .int .i64 o.fr, .int .i64 o.tt, .int .u8 (o.by1.toNat : Int), bv]] w (Yes w) := by
  by_cases hbl : o.b.length ≤ 2000
  · cases hl : lightB fs with
    | true => exact ndoes_light v bv fs o w h hb hok hl hbl
    | false => exact ndoes_heavy v bv fs o w h hb hn (.inl hl)
  · exact ndoes_heavy v bv fs o w h hb hn (.inr (by omega))
end Go.Proofs.Ytiognapakadggaa
