/- The reference's Double. -/
import Derived.Test.YtiognapakadggaaRefD
namespace Go.Proofs.Ytiognapakadggaa
open Go.RowKit

set_option maxHeartbeats 1000000 in
theorem rdouble_none (v : Value) (i : Int) (w : World) (h : NetAt w v []) : Calls Try.prog 19 #[.agg #[v], .int .i64 i] w (NetE w [] 4) := by
  obtain ⟨A, c, rfl⟩ := h.shape
  clear h
  go_enter Try.func19, Try.ntmps19
  go_wp2
  refine bodyPost_ret (v := .tuple #[.agg #[.slice none 0 0], .int .i64 4]) (by simp [results, Try.results19, go_sem]) rfl ⟨_, rfl, netNil _, ?_⟩
  repeat (first | exact Below.refl _ _ | refine Below.setCell ?_ (by first | omega | (simp; done) | (simp; omega)) _ | refine Below.alloc ?_ (by first | omega | (simp; done) | (simp; omega)) _)

set_option maxHeartbeats 1000000 in
theorem rdouble_full (v : Value) (fs : List Fl) (i : Int) (w : World) (h : NetAt w v fs) (hm : 40 ≤ fs.length) : Calls Try.prog 19 #[.agg #[v], .int .i64 i] w (NetE w [] 3) := by
  obtain ⟨A, c, rfl⟩ := h.shape
  have h0 : ((fs.length : Int) == 0) = false := by rw [beq_eq_false_iff_ne]; omega
  have h1 : (40 : Int) ≤ (fs.length : Int) := by omega
  clear h
  go_enter Try.func19, Try.ntmps19
  go_wp2
  refine bodyPost_ret (v := .tuple #[.agg #[.slice none 0 0], .int .i64 3]) (by simp [results, Try.results19, go_sem]) rfl ⟨_, rfl, netNil _, ?_⟩
  repeat (first | exact Below.refl _ _ | refine Below.setCell ?_ (by first | omega | (simp; done) | (simp; omega)) _ | refine Below.alloc ?_ (by first | omega | (simp; done) | (simp; omega)) _)

theorem rdouble_world {w w1 w2 : World} {n ca : Nat} {A1 : Option Addr} {vn : Value} {xs : List Value} {o : Obj}
    (hY : HasBlk w1 w.heap.size 26 #[vn] ∧ HasBlk w1 (w.heap.size + 1) 26 #[.slice none 0 0]) (hB : Below w.heap.size w w1)
    (hr : w1.drew.ownsRow (w.heap.size + 1 + 1) 31 4 (.slice A1 n ca) n xs) (hg : (w1.alloc o).drew.grownBy w2 (Value.ownBlock (.slice A1 n ca))) :
    HasBlk w2 w.heap.size 26 #[vn] ∧ HasBlk w2 (w.heap.size + 1) 26 #[.slice none 0 0] ∧ Below w.heap.size w w2 := by
  obtain ⟨Y0, Y1⟩ := hY
  refine ⟨HasBlk.grown (Y0.past o).drawn hg (own_ne hr Y0.drawn (by decide)), HasBlk.grown (Y1.past o).drawn hg (own_ne hr Y1.drawn (by decide)), (Below.drew (hB.alloc hB.size o)).grown hg (by show _ ≤ (w1.alloc o).heap.size; have := hB.size; simp; omega) (fun r h => ?_)⟩
  have := (World.ownsRow.lt hr _ h).1
  omega

set_option maxRecDepth 100000 in
set_option maxHeartbeats 4000000 in
theorem rdouble_ok (v : Value) (fs : List Fl) (i : Int) (k : Nat) (f : Fl) (w : World) (h : NetAt w v fs) (hf : fs[k]? = some f) (hk : ofI i fs.length = k) (hi : i ≤ 9223372036854775807) (hroom : fs.length < 40) :
    Calls Try.prog 19 #[.agg #[v], .int .i64 i] w (NetE w (fs ++ [f]) 0) := by
  have hkl : k < fs.length := (List.getElem?_eq_some_iff.1 hf).1
  obtain ⟨A, c, rfl, hc⟩ := id h
  obtain ⟨g, o, rfl, hfl⟩ := hc (by omega)
  obtain ⟨vb, c0, c1, c2, c3, hB⟩ := hfl k f hf
  obtain ⟨bA, bc, rfl⟩ := hB.shape
  obtain ⟨A', c', ps, hv, hps, hby, hsrc⟩ := h.row
  simp only [Value.slice.injEq, true_and] at hv
  obtain ⟨rfl, rfl⟩ := hv
  have hpl := fls_len hps
  have hgw : g < w.heap.size := World.block_lt_of_cell? _ _ c0
  have HPS := Lib.hid hps
  have HBY := Lib.hid hby
  have HSRC : Hid (SrcAt w (some ⟨g, o, none⟩) fs.length (ps.flatMap pcells)) := Lib.hid hsrc
  have HB := Lib.hid hB
  have HK := Lib.hid hk
  have hq : (0 : Int) < (fs.length : Int) := by omega
  have hq2 : (fs.length : Int) ≤ 9223372036854775807 := by omega
  have he : ((fs.length : Int) == 0) = false := by rw [beq_eq_false_iff_ne]; omega
  have he2 : ¬ (40 : Int) ≤ (fs.length : Int) := by omega
  have hk0 : (0 : Int) ≤ (k : Int) := by omega
  have hk1 : (k : Int) < (fs.length : Int) := by omega
  clear h hf hk hc hfl hB hps hby hsrc
  go_enter Try.func19, Try.ntmps19
  have b2 : ∀ o1 o2 : Obj, Below w.heap.size w ((w.alloc o1).alloc o2) := fun o1 o2 => ((Below.refl _ _).alloc (Nat.le_refl _) o1).alloc (by simp) o2
  have HB2 := Lib.hid b2
  clear b2
  go_wp2_with (at_builtin; refine app31n rfl (.const (.slice none 0 0)) (.tmp 18) rfl rfl rfl (news := ps.flatMap pcells) (by rw [pflat_length, hpl]) ?hs (pflat_one HBY.out) (by omega) ?_)
  case hs => exact HSRC.out.later (HB2.out _ _)
  intro A1 ca1 w1 hown1 hb1
  have hb1' : Below ((w.alloc (.cells #[.slice (some ⟨g, o, none⟩) fs.length c] 26)).alloc (.cells #[.slice none 0 0] 26)).heap.size ((w.alloc (.cells #[.slice (some ⟨g, o, none⟩) fs.length c] 26)).alloc (.cells #[.slice none 0 0] 26)) w1 := by simpa using hb1
  have Y0 := ((HasBlk.fresh w 26 #[.slice (some ⟨g, o, none⟩) fs.length c]).past (.cells #[.slice none 0 0] 26)).later hb1'
  have Y1 := (HasBlk.fresh (w.alloc (.cells #[.slice (some ⟨g, o, none⟩) fs.length c] 26)) 26 #[.slice none 0 0]).later hb1'
  simp only [World.size_alloc] at Y1 hown1
  have hB1 : Below w.heap.size w w1 := below_on (W := (w.alloc (.cells #[.slice (some ⟨g, o, none⟩) fs.length c] 26)).alloc (.cells #[.slice none 0 0] 26)) (by simp; omega) (HB2.out _ _) hb1'
  have n0 := Y0.cell 0
  have nl := Y0.lt
  have r0 := Y1.cell 0
  have rf := Y1.free 0
  have rl := Y1.lt
  simp only [List.getElem?_toArray, List.getElem?_cons_zero] at n0 r0
  have C0 := Lib.hid c0
  have C1 := Lib.hid c1
  have C2 := Lib.hid c2
  have C3 := Lib.hid c3
  have d0 := hB1.cell (p := ⟨g, o + k * 4, none⟩) hgw |>.trans c0
  have d1 := hB1.cell (p := ⟨g, o + k * 4 + 1, none⟩) hgw |>.trans c1
  have d2 := hB1.cell (p := ⟨g, o + k * 4 + 2, none⟩) hgw |>.trans c2
  have d3 := hB1.cell (p := ⟨g, o + k * 4 + 3, none⟩) hgw |>.trans c3
  have hRW : w1.drew.ownsRow (w.heap.size + 1 + 1) 31 4 (.slice A1 fs.length ca1) fs.length (ps.flatMap pcells) := hown1
  have HRW := Lib.hid hRW
  have HRA : Hid (∀ ob : Obj, (w1.alloc ob).drew.ownsRow (w.heap.size + 1 + 1) 31 4 (.slice A1 fs.length ca1) fs.length (ps.flatMap pcells)) := Lib.hid (fun ob => hown1.alloc ob)
  have HBX := Lib.hid hB1
  have HY := Lib.hid (And.intro Y0 Y1)
  have hsz : w1.drew.heap.size = w1.heap.size := rfl
  have H1 := Lib.hid (pcells_one (p := (f, .slice bA f.b.length bc)) HB.out)
  clear Y0 Y1 hb1 hb1' hown1 hRW hB1 c0 c1 c2 c3 HSRC
  go_wp2_with fail
  go_region_law (first
    | (go_simp; go_at_call 30; refine (place_is _ _ _ hq hq2 hi HK.out).mono ?_; rintro e w' ⟨rfl, rfl⟩)
    | (refine step31 (by rfl) (.tmp 20) (.tmp 30) (by rfl) (by rfl) (by rfl) (HRA.out _) (news := pcells (f, .slice bA f.b.length bc)) (by rfl) (SrcAt.lit w1.drew _ 31 1 _ rfl) H1.out (by omega) (by simp; omega) ?_; intro A2 ca2 w2 hown2 hgr; obtain ⟨Z0, Z1, hz⟩ := rdouble_world HY.out HBX.out HRW.out hgr; have n0 := Z0.cell 0; have nl := Z0.lt; have r0 := Z1.cell 0; have rf := Z1.free 0; have rl := Z1.lt; simp only [List.getElem?_toArray, List.getElem?_cons_zero] at n0 r0; have HO2 := Lib.hid hown2; have HZ := Lib.hid (And.intro Z0 (And.intro Z1 hz)); clear Z0 Z1 hz hown2 hgr))
  all_goals go_wp2
  all_goals
    obtain ⟨Z0, Z1, hz⟩ := HZ.out
    have hnet := row_net (v := .slice A2 (fs.length + 1) ca2) (ps := ps ++ [(f, .slice bA f.b.length bc)]) (fs := fs ++ [f]) (by rw [List.flatMap_append]; simpa [hpl] using HO2.out) (fun p hp => by
      rcases List.mem_append.1 hp with hp | hp
      · exact HBY.out p hp
      · rw [List.mem_singleton] at hp
        subst hp
        exact HB.out) hz (by rw [List.map_append, HPS.out]; rfl)
    exact bodyPost_ret (v := .tuple #[.agg #[.slice A2 (fs.length + 1) ca2], .int .i64 0]) (by simp [results, Try.results19, go_sem, r0]) rfl ⟨_, rfl, hnet.box Z1 _, hz.setCell (p := ⟨w.heap.size + 1, 0, none⟩) (by dsimp only; omega) _⟩
end Go.Proofs.Ytiognapakadggaa
