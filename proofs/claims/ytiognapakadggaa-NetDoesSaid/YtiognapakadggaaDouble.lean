/- net.Double: the net with the piece that is meant once more at its end. -/
import Derived.Test.YtiognapakadggaaDrop
namespace Go.Proofs.Ytiognapakadggaa
open Go.RowKit

set_option maxHeartbeats 1000000 in
theorem double_none (v : Value) (i : Int) (w : World) (h : NetAt w v []) : Calls Try.prog 18 #[.agg #[v], .int .i64 i] w (NetE w [] 4) := by
  obtain ⟨A, c, rfl⟩ := h.shape
  clear h
  go_enter Try.func18, Try.ntmps18
  go_wp2
  refine bodyPost_ret (v := .tuple #[.agg #[.slice none 0 0], .int .i64 4]) (by simp [results, Try.results18, go_sem]) rfl ⟨_, rfl, netNil _, ?_⟩
  repeat (first | exact Below.refl _ _ | refine Below.setCell ?_ (by first | omega | (simp; done) | (simp; omega)) _ | refine Below.alloc ?_ (by first | omega | (simp; done) | (simp; omega)) _)

set_option maxHeartbeats 1000000 in
theorem double_full (v : Value) (fs : List Fl) (i : Int) (w : World) (h : NetAt w v fs) (hm : 40 ≤ fs.length) (hn : fs.length ≤ 9223372036854775807) : Calls Try.prog 18 #[.agg #[v], .int .i64 i] w (NetE w [] 3) := by
  obtain ⟨A, c, rfl⟩ := h.shape
  have h0 : ((fs.length : Int) == 0) = false := by rw [beq_eq_false_iff_ne]; omega
  have h1 : (40 : Int) ≤ (fs.length : Int) := by omega
  clear h
  go_enter Try.func18, Try.ntmps18
  go_wp2
  refine bodyPost_ret (v := .tuple #[.agg #[.slice none 0 0], .int .i64 3]) (by simp [results, Try.results18, go_sem]) rfl ⟨_, rfl, netNil _, ?_⟩
  repeat (first | exact Below.refl _ _ | refine Below.setCell ?_ (by first | omega | (simp; done) | (simp; omega)) _ | refine Below.alloc ?_ (by first | omega | (simp; done) | (simp; omega)) _)

set_option maxRecDepth 100000 in
set_option maxHeartbeats 4000000 in
theorem double_ok (v : Value) (fs : List Fl) (i : Int) (k : Nat) (f : Fl) (w : World) (h : NetAt w v fs) (hf : fs[k]? = some f) (hk : ofI i fs.length = k) (hi : i ≤ 9223372036854775807) (hroom : fs.length < 40) (hl : ∀ f ∈ fs, f.b.length ≤ 1000000) :
    Calls Try.prog 18 #[.agg #[v], .int .i64 i] w (NetE w (fs ++ [f]) 0) := by
  have hkl : k < fs.length := (List.getElem?_eq_some_iff.1 hf).1
  obtain ⟨A, c, rfl, hc⟩ := id h
  have HN := Lib.hid h
  obtain ⟨g, o, rfl, hfl⟩ := hc (by omega)
  obtain ⟨vb, c0, c1, c2, c3, hB⟩ := hfl k f hf
  obtain ⟨bA, bc, rfl⟩ := hB.shape
  have hgw : g < w.heap.size := World.block_lt_of_cell? _ _ c0
  have hgw1 : g < w.heap.size + 1 := by omega
  have hgw2 : g < w.heap.size + 1 + 1 := by omega
  have hgw3 : g < w.heap.size + 1 + 1 + 1 := by omega
  have hfm := hl f (List.mem_of_getElem? hf)
  have HB := Lib.hid hB
  have HL := Lib.hid hl
  have HK := Lib.hid hk
  have hp : (0 : Int) < (fs.length : Int) := by omega
  have hp2 : (fs.length : Int) ≤ 9223372036854775807 := by omega
  have he : ((fs.length : Int) == 0) = false := by rw [beq_eq_false_iff_ne]; omega
  have he2 : ¬ (40 : Int) ≤ (fs.length : Int) := by omega
  have hk0 : (0 : Int) ≤ (k : Int) := by omega
  have hk1 : (k : Int) < (fs.length : Int) := by omega
  obtain ⟨i31, hi0, hz0, hz1, hz2⟩ := info_parts Try.info31
  have HI0 := Lib.hid hi0
  have HZZ := Lib.hid hz0
  have HZ1' := Lib.hid hz1
  have HZ2' := Lib.hid hz2
  clear hi0 hz0 hz1 hz2 h hf hc hfl hB hl hk
  go_enter Try.func18, Try.ntmps18
  go_wp2_with fail
  go_cut [6] (fun p wx => p = .pointer (some ⟨w.heap.size + 1 + 1, 0, none⟩) ∧ wx = (((w.alloc (.cells #[.slice (some ⟨g, o, none⟩) fs.length c] 26)).alloc (.cells #[.slice none 0 0] 26)).alloc (.cells #[.int .i64 f.fr, .int .i64 f.to, .slice bA f.b.length bc, .bool f.bad] 31)).drew)
  case first =>
    go_region_with (go_at_call 26; refine (of_is _ _ _ hp hp2 hi HK.out).mono ?_; rintro e w' ⟨rfl, rfl⟩)
    all_goals
      go_wp2_with fail
      go_meet
      case rel => exact ⟨rfl, rfl⟩
  case rest =>
    obtain ⟨rfl, rfl⟩ := hcut
    have hB0 : Below w.heap.size w (((w.alloc (.cells #[.slice (some ⟨g, o, none⟩) fs.length c] 26)).alloc (.cells #[.slice none 0 0] 26)).alloc (.cells #[.int .i64 f.fr, .int .i64 f.to, .slice bA f.b.length bc, .bool f.bad] 31)).drew := by
      refine Below.drew ?_
      repeat (first | exact Below.refl _ _ | refine Below.alloc ?_ (by first | omega | (simp; done) | (simp; omega)) _)
    have X0 := ((HasBlk.fresh w 26 #[.slice (some ⟨g, o, none⟩) fs.length c]).past (.cells #[.slice none 0 0] 26)).past (.cells #[.int .i64 f.fr, .int .i64 f.to, .slice bA f.b.length bc, .bool f.bad] 31)
    have X1 := (HasBlk.fresh (w.alloc (.cells #[.slice (some ⟨g, o, none⟩) fs.length c] 26)) 26 #[.slice none 0 0]).past (.cells #[.int .i64 f.fr, .int .i64 f.to, .slice bA f.b.length bc, .bool f.bad] 31)
    have X2 := HasBlk.fresh ((w.alloc (.cells #[.slice (some ⟨g, o, none⟩) fs.length c] 26)).alloc (.cells #[.slice none 0 0] 26)) 31 #[.int .i64 f.fr, .int .i64 f.to, .slice bA f.b.length bc, .bool f.bad]
    simp only [World.size_alloc] at X1 X2
    have X0 := X0.drawn
    have X1 := X1.drawn
    have X2 := X2.drawn
    have hN0 := HN.out.later hB0
    have hBy0 := HB.out.later hB0
    generalize (((w.alloc (.cells #[.slice (some ⟨g, o, none⟩) fs.length c] 26)).alloc (.cells #[.slice none 0 0] 26)).alloc (.cells #[.int .i64 f.fr, .int .i64 f.to, .slice bA f.b.length bc, .bool f.bad] 31)).drew = W at *
    have x0 := X0.cell 0
    have x1 := X1.cell 0
    have y0 := X2.cell 0
    have y1 := X2.cell 1
    have y2 := X2.cell 2
    have y3 := X2.cell 3
    have xl := X2.lt
    have xl1 := X1.lt
    have xl0 := X0.lt
    simp only [List.getElem?_toArray, List.getElem?_cons_zero, List.getElem?_cons_succ] at x0 x1 y0 y1 y2 y3
    have HN0 := Lib.hid hN0
    have HBy0 := Lib.hid hBy0
    have HX := Lib.hid (And.intro X0 (And.intro X1 X2))
    have HB0 := Lib.hid hB0
    clear X0 X1 X2 hN0 hBy0 hB0 c0 c1 c2 c3
    go_wp2_with fail
    refine (bytes_any _ f.b _ HBy0.out hfm).mono ?_
    rintro e w1 ⟨g2, rfl, hg2, hblk, hb1⟩
    obtain ⟨X0, X1, X2⟩ := HX.out
    have Y0 := X0.later hb1
    have Y1 := X1.later hb1
    have Y2 := X2.later hb1
    have hB1 : Below w.heap.size w w1 := below_on HB0.out.size HB0.out hb1
    have hN1 := HN0.out.later hb1
    have Z2 := Y2.put 2 (.slice (some ⟨g2, 0, none⟩) f.b.length f.b.length)
    have Z0 := Y0.off (p := ⟨w.heap.size + 1 + 1, 2, none⟩) (by dsimp only; omega) (.slice (some ⟨g2, 0, none⟩) f.b.length f.b.length)
    have Z1 := Y1.off (p := ⟨w.heap.size + 1 + 1, 2, none⟩) (by dsimp only; omega) (.slice (some ⟨g2, 0, none⟩) f.b.length f.b.length)
    have ZG := hblk.off (p := ⟨w.heap.size + 1 + 1, 2, none⟩) (by dsimp only; omega) (.slice (some ⟨g2, 0, none⟩) f.b.length f.b.length)
    have hB2 := hB1.setCell (p := ⟨w.heap.size + 1 + 1, 2, none⟩) (by dsimp only; omega) (.slice (some ⟨g2, 0, none⟩) f.b.length f.b.length)
    have y0 := Y2.cell 0
    have y1 := Y2.cell 1
    have y2 := Y2.cell 2
    have y3 := Y2.cell 3
    have yf2 := Y2.free 2
    have yl2 := Y2.lt
    have x0 := Y0.cell 0
    simp only [List.getElem?_toArray, List.getElem?_cons_zero, List.getElem?_cons_succ] at x0 y0 y1 y2 y3
    have HNA := Lib.hid (HN.out.later hB2)
    have HB2 := Lib.hid hB2
    have HZ := Lib.hid (And.intro Z0 (And.intro Z1 (And.intro Z2 ZG)))
    have hz2 := hB2.size
    have hg2' : w.heap.size + 1 + 1 < g2 := by omega
    clear Z0 Z1 Z2 ZG Y0 Y1 Y2 X0 X1 X2 hblk hb1 hB1 hB2 hN1 HX HN0 HBy0 HB0 HN HB
    go_wp2_with fail
    generalize w1.setCell ⟨w.heap.size + 1 + 1, 2, none⟩ (.slice (some ⟨g2, 0, none⟩) f.b.length f.b.length) = W6 at HNA HB2 HZ hz2 ⊢
    clear y0 y1 y2 y3 x0 yf2 yl2
    refine (all_any _ fs _ HNA.out (by omega) HL.out).mono ?_
    rintro e w7 ⟨v7, rfl, hf7, hb7⟩
    obtain ⟨A7, c7, rfl⟩ := hf7.shape
    obtain ⟨Z0, Z1, Z2, ZG⟩ := HZ.out
    simp at Z2
    have zl2 := Z2.lt
    have zgl := ZG.lt
    have U0 := (Z0.later hb7).put 0 (.slice A7 fs.length c7)
    have U1 := (Z1.later hb7).off (p := ⟨w.heap.size, 0, none⟩) (by dsimp only; omega) (.slice A7 fs.length c7)
    have U2 := (Z2.later hb7).off (p := ⟨w.heap.size, 0, none⟩) (by dsimp only; omega) (.slice A7 fs.length c7)
    have UG := (ZG.later hb7).off (p := ⟨w.heap.size, 0, none⟩) (by dsimp only; omega) (.slice A7 fs.length c7)
    have hB7 := (below_on HB2.out.size HB2.out hb7).setCell (p := ⟨w.heap.size, 0, none⟩) (Nat.le_refl _) (.slice A7 fs.length c7)
    have hF7 := hf7.put_low (b := w.heap.size) (by omega) 0 (.slice A7 fs.length c7)
    have z0 := (Z0.later hb7).cell 0
    have zf0 := (Z0.later hb7).free 0
    have zl0 := (Z0.later hb7).lt
    simp at z0 U0
    obtain ⟨ps, hps, hpw, hpb, hpo⟩ := hF7
    have hpl : ps.length = fs.length := by have := congrArg List.length hps; simpa using this
    have HPS := Lib.hid hps
    have HPB := Lib.hid hpb
    have HPO := Lib.hid hpo
    have HU := Lib.hid (And.intro U0 (And.intro U1 (And.intro U2 UG)))
    have HB7 := Lib.hid hB7
    have hz7 := hB7.size
    have hz67 : W6.heap.size ≤ (w7.setCell ⟨w.heap.size, 0, none⟩ (.slice A7 fs.length c7)).heap.size := by simpa using hb7.size
    clear Z0 Z1 Z2 ZG U0 U1 U2 UG hps hpw hpb hpo hB7 hf7 hb7 HNA HB2 HZ
    go_upto_region 8 with (fail)
    generalize w7.setCell ⟨w.heap.size, 0, none⟩ (.slice A7 fs.length c7) = W7 at HPO HPB HU HB7 hz7 hz67 ⊢
    clear z0 zf0 zl0
    obtain ⟨U0, U1, U2, UG⟩ := HU.out
    have u0 := U0.cell 0
    have uf0 := U0.free 0
    have ul0 := U0.lt
    have u1 := U1.cell 0
    have ul1 := U1.lt
    have f0 := U2.cell 0
    have f1 := U2.cell 1
    have f2 := U2.cell 2
    have f3 := U2.cell 3
    have fl := U2.lt
    simp only [List.getElem?_toArray, List.getElem?_cons_zero, List.getElem?_cons_succ] at u0 u1 f0 f1 f2 f3
    clear U0 U1 U2 UG
    go_wp2_with (at_builtin; refine wpList_append_own _ rfl (.tmp 35) (.tmp 37) 24 rfl W6.heap.size 31 i31 _ 4 48 Try.underlying24 HI0.out HZZ.out HZ1'.out HZ2'.out rfl (by decide) (.slice A7 fs.length c7) ps.length (ps.flatMap cellsOf) rfl (HPO.out.alloc _) ⟨W7.heap.size, 0, none⟩ 1 1 (cellsOf (f, g2)) rfl rfl ?c1 ?c2 ?c3 ?c4 ?c5 ?_)
    case c1 => exact World.news_of_block (cs := #[.int .i64 f.fr, .int .i64 f.to, .slice (some ⟨g2, 0, none⟩) f.b.length f.b.length, .bool f.bad]) (t := 31) (fr := (0, 0)) (heap_alloc_new W7 _)
    case c2 => simp [cellsOf, Value.oneCell']
    case c3 => simp only [maxLen]; omega
    case c4 => omega
    case c5 => simp; omega
    intro v' w9 hown hgrow _
    obtain ⟨U0, U1, U2, UG⟩ := HU.out
    have V0 := HasBlk.grown (U0.past (.cells #[.int .i64 f.fr, .int .i64 f.to, .slice (some ⟨g2, 0, none⟩) f.b.length f.b.length, .bool f.bad] 31)) hgrow (own_ne HPO.out U0 (by decide))
    have V1 := HasBlk.grown (U1.past (.cells #[.int .i64 f.fr, .int .i64 f.to, .slice (some ⟨g2, 0, none⟩) f.b.length f.b.length, .bool f.bad] 31)) hgrow (own_ne HPO.out U1 (by decide))
    have VG := HasBlk.grown (UG.past (.cells #[.int .i64 f.fr, .int .i64 f.to, .slice (some ⟨g2, 0, none⟩) f.b.length f.b.length, .bool f.bad] 31)) hgrow (own_ne HPO.out UG (by decide))
    have hby : ∀ p ∈ (ps ++ [(f, g2)]).map (fun p => (p.1, Value.slice (some ⟨p.2, 0, none⟩) p.1.b.length p.1.b.length)), BytesAt w9 p.2 p.1.b := by
      intro p hp
      simp only [List.map_append, List.map_cons, List.map_nil, List.mem_append, List.mem_map, List.mem_singleton] at hp
      rcases hp with ⟨q, hq, rfl⟩ | rfl
      · exact BytesAt.of_blk (HasBlk.grown ((HPB.out q hq).2.past _) hgrow (own_ne HPO.out (HPB.out q hq).2 (by decide)))
      · exact BytesAt.of_blk VG
    have hcells : ∀ l : List (Fl × Nat), l.flatMap cellsOf = (l.map (fun p => (p.1, Value.slice (some ⟨p.2, 0, none⟩) p.1.b.length p.1.b.length))).flatMap pcells := by
      intro l
      rw [List.flatMap_map]
      rfl
    have hrow : w9.ownsRow W6.heap.size 31 4 v' ((ps ++ [(f, g2)]).map (fun p => (p.1, Value.slice (some ⟨p.2, 0, none⟩) p.1.b.length p.1.b.length))).length (((ps ++ [(f, g2)]).map (fun p => (p.1, Value.slice (some ⟨p.2, 0, none⟩) p.1.b.length p.1.b.length))).flatMap pcells) := by
      rw [← hcells, List.flatMap_append]
      simpa [hpl] using hown
    have hnet := row_netAt hrow hby
    have hmap : ((ps ++ [(f, g2)]).map (fun p => (p.1, Value.slice (some ⟨p.2, 0, none⟩) p.1.b.length p.1.b.length))).map (·.1) = fs ++ [f] := by
      rw [List.map_map, List.map_append]
      have : List.map ((fun x => x.1) ∘ fun p : Fl × Nat => (p.1, Value.slice (some ⟨p.2, 0, none⟩) p.1.b.length p.1.b.length)) ps = fs := HPS.out
      rw [this]
      rfl
    rw [hmap] at hnet
    obtain ⟨A9, c9, rfl⟩ := hnet.shape
    have hB9 : Below w.heap.size w w9 := (HB7.out.alloc hz7 (.cells #[.int .i64 f.fr, .int .i64 f.to, .slice (some ⟨g2, 0, none⟩) f.b.length f.b.length, .bool f.bad] 31)).grown hgrow (by simp; omega) (fun r hr => by have := (World.ownsRow.lt HPO.out _ hr).1; omega)
    have v0 := V0.cell 0
    have vf0 := V0.free 0
    have vl0 := V0.lt
    have v1 := V1.cell 0
    have vf1 := V1.free 0
    have vl1 := V1.lt
    simp only [List.getElem?_toArray, List.getElem?_cons_zero] at v0 v1
    have hfin := Lib.hid ((hnet.box V0 (.slice A9 (fs ++ [f]).length c9)).box (V1.off (p := ⟨w.heap.size, 0, none⟩) (by dsimp only; omega) (.slice A9 (fs ++ [f]).length c9)) (.slice A9 (fs ++ [f]).length c9))
    have HB9 := Lib.hid hB9
    have hlen : (fs ++ [f]).length = fs.length + 1 := by simp
    rw [hlen] at hfin
    clear V0 V1 VG U0 U1 U2 UG hby hcells hrow hnet hmap hown hgrow hB9 HU HPO HPB HPS HB7 f0 f1 f2 f3 fl u0 uf0 ul0 u1 ul1
    go_wp2
    exact bodyPost_ret (v := .tuple #[.agg #[.slice A9 (fs.length + 1) c9], .int .i64 0]) (by simp [results, Try.results18, go_sem, v1]) rfl ⟨_, rfl, hfin.out, (HB9.out.setCell (p := ⟨w.heap.size, 0, none⟩) (Nat.le_refl _) _).setCell (p := ⟨w.heap.size + 1, 0, none⟩) (by dsimp only; omega) _⟩
end Go.Proofs.Ytiognapakadggaa
