/- The reference's Take, and Drop. -/
import Derived.Test.YtiognapakadggaaRefB
import Derived.Deep.RegionLaw
import Derived.IntWalk
namespace Go.Proofs.Ytiognapakadggaa
open Go.RowKit

set_option maxHeartbeats 1000000 in
theorem rtake_none (v : Value) (i : Int) (w : World) (h : NetAt w v []) : Calls Try.prog 15 #[.agg #[v], .int .i64 i] w (TakeN w) := by
  obtain ⟨A, c, rfl, _⟩ := h
  go_enter Try.func15, Try.ntmps15
  go_wp2
  refine bodyPost_ret (v := .tuple #[.agg #[.slice none 0 0], .agg #[.int .i64 0, .int .i64 0, .slice none 0 0, .bool false], .int .i64 4]) (by simp [results, Try.results15, go_sem]) rfl ⟨rfl, ?_⟩
  repeat (first | exact Below.refl _ _ | refine Below.setCell ?_ (by simp; try omega) _ | refine Below.alloc ?_ (by first | omega | (simp; done) | (simp; omega)) _)

theorem wrap_next {k : Nat} (h : k ≤ 1000) : IntKind.i64.wrap ((k : Int) + 1) = (k : Int) + 1 := (Go.IntWalk.i64_left _).trans (Go.IntWalk.wrap64_in _ (by omega))

/-- What a call that answers a net, a piece and no error says. -/
def TakeE (w : World) (fs : List Fl) (f : Fl) (e : Ending) (w' : World) : Prop :=
  ∃ v A c, e = .returned (.tuple #[.agg #[v], .agg #[.int .i64 f.fr, .int .i64 f.to, .slice A f.b.length c, .bool f.bad], .int .i64 0]) ∧ NetAt w' v fs ∧ BytesAt w' (.slice A f.b.length c) f.b ∧ Below w.heap.size w w'

theorem place_is {k : Nat} (i n : Int) (w : World) (h : 0 < n) (h2 : n ≤ 9223372036854775807) (h3 : i ≤ 9223372036854775807) (hk : ofI i n = k) : Calls Try.prog 30 #[.int .i64 i, .int .i64 n] w fun e w' => e = .returned (.int .i64 k) ∧ w' = w := by
  refine (place_any i n w h h2 h3).mono ?_
  rintro e w' ⟨rfl, rfl⟩
  exact ⟨by rw [hk], rfl⟩

theorem SrcAt.take {w : World} {A : Option Addr} {m k : Nat} {ps : List (Fl × Value)} (h : SrcAt w A m (ps.flatMap pcells)) (hk : k ≤ m) : SrcAt w A k ((ps.take k).flatMap pcells) := by
  intro hp
  obtain ⟨g, o, rfl, hc⟩ := h (by omega)
  refine ⟨g, o, rfl, fun j u hu => hc j u ?_⟩
  have : ps.flatMap pcells = (ps.take k).flatMap pcells ++ (ps.drop k).flatMap pcells := by rw [← List.flatMap_append, List.take_append_drop]
  rw [this, List.getElem?_append_left (List.getElem?_eq_some_iff.1 hu).1]
  exact hu
theorem SrcAt.drop {w : World} {g o m k : Nat} {ps : List (Fl × Value)} (h : SrcAt w (some ⟨g, o, none⟩) m (ps.flatMap pcells)) (hk : k ≤ ps.length) : SrcAt w (some ⟨g, o + k * 4, none⟩) (m - k) ((ps.drop k).flatMap pcells) := by
  intro hp
  obtain ⟨g', o', hA, hc⟩ := h (by omega)
  cases hA
  refine ⟨g, o + k * 4, rfl, fun j u hu => ?_⟩
  have hl : ((ps.take k).flatMap pcells).length = k * 4 := by rw [pflat_length, List.length_take]; congr 1; omega
  have : ps.flatMap pcells = (ps.take k).flatMap pcells ++ (ps.drop k).flatMap pcells := by rw [← List.flatMap_append, List.take_append_drop]
  have := hc (k * 4 + j) u (by rw [this, List.getElem?_append_right (by omega), hl]; rw [show k * 4 + j - k * 4 = j by omega]; exact hu)
  rw [show o + k * 4 + j = o + (k * 4 + j) by omega]
  exact this

theorem rtake_world {w w1 w2 : World} {k ca : Nat} {A1 : Option Addr} {vn : Value} {xs : List Value}
    (hY : HasBlk w1 w.heap.size 26 #[vn] ∧ HasBlk w1 (w.heap.size + 1) 26 #[.slice none 0 0] ∧ HasBlk w1 (w.heap.size + 1 + 1) 31 #[.int .i64 0, .int .i64 0, .slice none 0 0, .bool false]) (hB : Below w.heap.size w w1)
    (hr : w1.drew.ownsRow (w.heap.size + 1 + 1 + 1) 31 4 (.slice A1 k ca) k xs) (hg : w1.drew.grownBy w2 (Value.ownBlock (.slice A1 k ca))) :
    HasBlk w2 w.heap.size 26 #[vn] ∧ HasBlk w2 (w.heap.size + 1) 26 #[.slice none 0 0] ∧ HasBlk w2 (w.heap.size + 1 + 1) 31 #[.int .i64 0, .int .i64 0, .slice none 0 0, .bool false] ∧ Below w.heap.size w w2 := by
  obtain ⟨Y0, Y1, Y2⟩ := hY
  refine ⟨HasBlk.grown Y0.drawn hg (own_ne hr Y0.drawn (by decide)), HasBlk.grown Y1.drawn hg (own_ne hr Y1.drawn (by decide)), HasBlk.grown Y2.drawn hg (fun e => ?_), (Below.drew hB).grown hg (hB.size) (fun r h => ?_)⟩
  · have := (World.ownsRow.lt hr _ e).1
    omega
  · have := (World.ownsRow.lt hr _ h).1
    omega

theorem rtake_fin {w w2 : World} {fs : List Fl} {ps : List (Fl × Value)} {k n ca : Nat} {A2 bA : Option Addr} {bc : Nat} {pf : Fl} (hps : ps.map (·.1) = fs) (hby : ∀ p ∈ ps, BytesAt w p.2 p.1.b) (hpl : ps.length = fs.length) (hk : k < fs.length) (hB : BytesAt w (.slice bA pf.b.length bc) pf.b)
    (_Z1 : HasBlk w2 (w.heap.size + 1) 26 #[.slice none 0 0]) (_Z2 : HasBlk w2 (w.heap.size + 1 + 1) 31 #[.int .i64 0, .int .i64 0, .slice none 0 0, .bool false]) (hz : Below w.heap.size w w2)
    (hO : w2.ownsRow (w.heap.size + 1 + 1 + 1) 31 4 (.slice A2 n ca) n ((ps.take k).flatMap pcells ++ (ps.drop (k + 1)).flatMap pcells)) (hn : n = fs.length - 1) :
    NetAt (((((w2.setCell ⟨w.heap.size + 1, 0, none⟩ (.slice A2 n ca)).setCell ⟨w.heap.size + 1 + 1, 0, none⟩ (.int .i64 pf.fr)).setCell ⟨w.heap.size + 1 + 1, 1, none⟩ (.int .i64 pf.to)).setCell ⟨w.heap.size + 1 + 1, 2, none⟩ (.slice bA pf.b.length bc)).setCell ⟨w.heap.size + 1 + 1, 3, none⟩ (.bool pf.bad)) (.slice A2 n ca) (fs.eraseIdx k) ∧
    BytesAt (((((w2.setCell ⟨w.heap.size + 1, 0, none⟩ (.slice A2 n ca)).setCell ⟨w.heap.size + 1 + 1, 0, none⟩ (.int .i64 pf.fr)).setCell ⟨w.heap.size + 1 + 1, 1, none⟩ (.int .i64 pf.to)).setCell ⟨w.heap.size + 1 + 1, 2, none⟩ (.slice bA pf.b.length bc)).setCell ⟨w.heap.size + 1 + 1, 3, none⟩ (.bool pf.bad)) (.slice bA pf.b.length bc) pf.b ∧
    Below w.heap.size w (((((w2.setCell ⟨w.heap.size + 1, 0, none⟩ (.slice A2 n ca)).setCell ⟨w.heap.size + 1 + 1, 0, none⟩ (.int .i64 pf.fr)).setCell ⟨w.heap.size + 1 + 1, 1, none⟩ (.int .i64 pf.to)).setCell ⟨w.heap.size + 1 + 1, 2, none⟩ (.slice bA pf.b.length bc)).setCell ⟨w.heap.size + 1 + 1, 3, none⟩ (.bool pf.bad)) := by
  have hr : ∀ r, r < w.heap.size + 1 + 1 + 1 → (Value.slice A2 n ca).ownBlock ≠ some r := fun r hr hh => by
    have := (World.ownsRow.lt hO r hh).1
    omega
  have O := own_put (own_put (own_put (own_put (own_put hO (hr (w.heap.size + 1) (by omega)) 0 (.slice A2 n ca)) (hr (w.heap.size + 1 + 1) (by omega)) 0 (.int .i64 pf.fr)) (hr (w.heap.size + 1 + 1) (by omega)) 1 (.int .i64 pf.to)) (hr (w.heap.size + 1 + 1) (by omega)) 2 (.slice bA pf.b.length bc)) (hr (w.heap.size + 1 + 1) (by omega)) 3 (.bool pf.bad)
  have L := ((((hz.setCell (p := ⟨w.heap.size + 1, 0, none⟩) (by dsimp only; omega) (.slice A2 n ca)).setCell (p := ⟨w.heap.size + 1 + 1, 0, none⟩) (by dsimp only; omega) (.int .i64 pf.fr)).setCell (p := ⟨w.heap.size + 1 + 1, 1, none⟩) (by dsimp only; omega) (.int .i64 pf.to)).setCell (p := ⟨w.heap.size + 1 + 1, 2, none⟩) (by dsimp only; omega) (.slice bA pf.b.length bc)).setCell (p := ⟨w.heap.size + 1 + 1, 3, none⟩) (by dsimp only; omega) (.bool pf.bad)
  generalize ((((w2.setCell ⟨w.heap.size + 1, 0, none⟩ (.slice A2 n ca)).setCell ⟨w.heap.size + 1 + 1, 0, none⟩ (.int .i64 pf.fr)).setCell ⟨w.heap.size + 1 + 1, 1, none⟩ (.int .i64 pf.to)).setCell ⟨w.heap.size + 1 + 1, 2, none⟩ (.slice bA pf.b.length bc)).setCell ⟨w.heap.size + 1 + 1, 3, none⟩ (.bool pf.bad) = W at O L ⊢
  have he : ps.take k ++ ps.drop (k + 1) = ps.eraseIdx k := (List.eraseIdx_eq_take_drop_succ ps k).symm
  rw [← List.flatMap_append, he] at O
  have hln : n = (ps.eraseIdx k).length := by rw [List.length_eraseIdx]; split <;> omega
  refine ⟨row_net (ps := ps.eraseIdx k) (by rw [← hln]; exact O) (fun p hp => hby p (List.mem_of_mem_eraseIdx hp)) L ?_, hB.later L, L⟩
  rw [← hps, List.eraseIdx_eq_take_drop_succ, List.eraseIdx_eq_take_drop_succ, List.map_append, List.map_take, List.map_drop]

set_option maxRecDepth 100000 in
set_option maxHeartbeats 4000000 in
theorem rtake_some (A : Option Addr) (c : Nat) (fs : List Fl) (i : Int) (k : Nat) (f : Fl) (w : World) (h : NetAt w (.slice A fs.length c) fs) (hlc : fs.length ≤ c) (hf : fs[k]? = some f) (hk : ofI i fs.length = k) (hi : i ≤ 9223372036854775807) (hn : fs.length ≤ 400) :
    Calls Try.prog 15 #[.agg #[.slice A fs.length c], .int .i64 i] w (TakeE w (fs.eraseIdx k) f) := by
  have hkl : k < fs.length := (List.getElem?_eq_some_iff.1 hf).1
  obtain ⟨A', c', ps, hv, hps, hby, hsrc⟩ := h.row
  simp only [Value.slice.injEq, true_and] at hv
  obtain ⟨rfl, rfl⟩ := hv
  obtain ⟨g, o, rfl, hcell⟩ := hsrc (by omega)
  have hpl := fls_len hps
  obtain ⟨p, hp⟩ : ∃ p, ps[k]? = some p := ⟨_, List.getElem?_eq_getElem (by omega)⟩
  have hpf : p.1 = f := by
    have : (ps.map (·.1))[k]? = some p.1 := by simp [hp]
    rw [hps, hf] at this
    exact (Option.some.inj this).symm
  obtain ⟨pf, pv⟩ := p
  simp only at hpf
  subst hpf
  have hB := hby _ (List.mem_of_getElem? hp)
  simp only at hB
  obtain ⟨bA, bc, rfl⟩ := hB.shape
  have hcc : ∀ j, j < 4 → w.cell? ⟨g, o + k * 4 + j, none⟩ = (pcells (pf, Value.slice bA pf.b.length bc))[j]? := by
    intro j hj
    have := pflat ps k _ hp j hj
    have h4 : j < (pcells (pf, Value.slice bA pf.b.length bc)).length := by simpa [pcells] using hj
    rw [List.getElem?_eq_getElem h4] at this ⊢
    have := hcell _ _ this
    rw [show o + k * 4 + j = o + (k * 4 + j) by omega]
    exact this
  have c0 := hcc 0 (by omega)
  have c1 := hcc 1 (by omega)
  have c2 := hcc 2 (by omega)
  have c3 := hcc 3 (by omega)
  simp only [pcells, List.getElem?_cons_zero, List.getElem?_cons_succ, Nat.add_zero] at c0 c1 c2 c3
  have hgw : g < w.heap.size := World.block_lt_of_cell? _ _ c0
  have hgw1 : g < w.heap.size + 1 := by omega
  have hgw2 : g < w.heap.size + 1 + 1 := by omega
  have hgw3 : g < w.heap.size + 1 + 1 + 1 := by omega
  have HPS := Lib.hid hps
  have HBY := Lib.hid hby
  have HSRC : Hid (SrcAt w (some ⟨g, o, none⟩) fs.length (ps.flatMap pcells)) := Lib.hid hsrc
  have HB := Lib.hid hB
  have HK := Lib.hid hk
  have hq : (0 : Int) < (fs.length : Int) := by omega
  have hq2 : (fs.length : Int) ≤ 9223372036854775807 := by omega
  have he : ((fs.length : Int) == 0) = false := by rw [beq_eq_false_iff_ne]; omega
  have hk0 : (0 : Int) ≤ (k : Int) := by omega
  have hk1 : (k : Int) < (fs.length : Int) := by omega
  have hk2 : (k : Int) ≤ (c : Int) := by omega
  have hk4 : (fs.length : Int) ≤ (c : Int) := by omega
  have hk3 : (k : Int) + 1 ≤ (fs.length : Int) := by omega
  clear h hf hk hsrc hcell hps hby hp hB hcc
  go_enter Try.func15, Try.ntmps15
  go_wp2_with fail
  refine (place_is _ _ _ hq hq2 hi HK.out).mono ?_
  rintro e w' ⟨rfl, rfl⟩
  have HT := Lib.hid (HSRC.out.take (k := k) (by omega))
  have HD : Hid (SrcAt w (if c = k + 1 then some ⟨g, o, none⟩ else some ⟨g, o + (k + 1) * 4, none⟩) (fs.length - (k + 1)) ((ps.drop (k + 1)).flatMap pcells)) := Lib.hid (by
    split
    · intro hp; omega
    · exact HSRC.out.drop (by omega))
  have b3 : ∀ o1 o2 o3 : Obj, Below w.heap.size w (((w.alloc o1).alloc o2).alloc o3) := fun o1 o2 o3 => (((Below.refl _ _).alloc (Nat.le_refl _) o1).alloc (by simp) o2).alloc (by simp; omega) o3
  have HB3 := Lib.hid b3
  clear b3
  go_wp2_with (at_builtin; refine app31n rfl (.const (.slice none 0 0)) (.tmp 23) rfl rfl rfl (news := (ps.take k).flatMap pcells) (by rw [pflat_length, List.length_take]; congr 1; omega) ?hs (pflat_one fun p hp => HBY.out p (List.mem_of_mem_take hp)) (by omega) ?_)
  case hs => exact HT.out.later (HB3.out _ _ _)
  intro A1 ca1 w1 hown1 hb1
  have X0 := ((HasBlk.fresh w 26 #[.slice (some ⟨g, o, none⟩) fs.length c]).past (.cells #[.slice none 0 0] 26)).past (.cells #[.int .i64 0, .int .i64 0, .slice none 0 0, .bool false] 31)
  have X1 := (HasBlk.fresh (w.alloc (.cells #[.slice (some ⟨g, o, none⟩) fs.length c] 26)) 26 #[.slice none 0 0]).past (.cells #[.int .i64 0, .int .i64 0, .slice none 0 0, .bool false] 31)
  have X2 := HasBlk.fresh ((w.alloc (.cells #[.slice (some ⟨g, o, none⟩) fs.length c] 26)).alloc (.cells #[.slice none 0 0] 26)) 31 #[.int .i64 0, .int .i64 0, .slice none 0 0, .bool false]
  simp only [World.size_alloc] at X1 X2 hown1 hb1
  have hb1' : Below (((w.alloc (.cells #[.slice (some ⟨g, o, none⟩) fs.length c] 26)).alloc (.cells #[.slice none 0 0] 26)).alloc (.cells #[.int .i64 0, .int .i64 0, .slice none 0 0, .bool false] 31)).heap.size (((w.alloc (.cells #[.slice (some ⟨g, o, none⟩) fs.length c] 26)).alloc (.cells #[.slice none 0 0] 26)).alloc (.cells #[.int .i64 0, .int .i64 0, .slice none 0 0, .bool false] 31)) w1 := by simpa using hb1
  have Y0 := X0.later hb1'
  have Y1 := X1.later hb1'
  have Y2 := X2.later hb1'
  have hB1 : Below w.heap.size w w1 := below_on (W := (((w.alloc (.cells #[.slice (some ⟨g, o, none⟩) fs.length c] 26)).alloc (.cells #[.slice none 0 0] 26)).alloc (.cells #[.int .i64 0, .int .i64 0, .slice none 0 0, .bool false] 31))) (by simp; omega) (HB3.out _ _ _) hb1'
  have n0 := Y0.cell 0
  have nl := Y0.lt
  have r0 := Y1.cell 0
  have rf := Y1.free 0
  have rl := Y1.lt
  have f0 := Y2.cell 0
  have f1 := Y2.cell 1
  have f2 := Y2.cell 2
  have f3 := Y2.cell 3
  have ff0 := Y2.free 0
  have ff1 := Y2.free 1
  have ff2 := Y2.free 2
  have ff3 := Y2.free 3
  have fl := Y2.lt
  simp only [List.getElem?_toArray, List.getElem?_cons_zero, List.getElem?_cons_succ] at n0 r0 f0 f1 f2 f3
  have d0 := hB1.cell (p := ⟨g, o + k * 4, none⟩) hgw |>.trans c0
  have d1 := hB1.cell (p := ⟨g, o + k * 4 + 1, none⟩) hgw |>.trans c1
  have d2 := hB1.cell (p := ⟨g, o + k * 4 + 2, none⟩) hgw |>.trans c2
  have d3 := hB1.cell (p := ⟨g, o + k * 4 + 3, none⟩) hgw |>.trans c3
  have HROW := Lib.hid hown1
  have HBX := Lib.hid hB1
  have HY := Lib.hid (And.intro Y0 (And.intro Y1 Y2))
  have C0 := Lib.hid c0
  have C1 := Lib.hid c1
  have C2 := Lib.hid c2
  have C3 := Lib.hid c3
  clear X0 X1 X2 Y0 Y1 Y2 hb1 hb1' hown1 hB1 HT HB3 c0 c1 c2 c3
  go_wp2_with fail
  have hwr : IntKind.i64.wrap ((k : Int) + 1) = (k : Int) + 1 := wrap_next (by omega)
  have hk5 : (0 : Int) ≤ (k : Int) + 1 := by omega
  have hl1 : ((ps.drop (k + 1)).flatMap pcells).length = (fs.length - (k + 1)) * 4 := by rw [pflat_length, List.length_drop]; congr 1; omega
  have HL1 := Lib.hid hl1
  have h11 : ∀ u ∈ (ps.drop (k + 1)).flatMap pcells, u.oneCell' = true := pflat_one fun p hp => HBY.out p (List.mem_of_mem_drop hp)
  have H11 := Lib.hid h11
  have hSW : SrcAt w1.drew (if c = k + 1 then some ⟨g, o, none⟩ else some ⟨g, o + (k + 1) * 4, none⟩) (fs.length - (k + 1)) ((ps.drop (k + 1)).flatMap pcells) := HD.out.later HBX.out.drew
  have HSW := Lib.hid hSW
  have hRW : w1.drew.ownsRow (w.heap.size + 1 + 1 + 1) 31 4 (.slice A1 k ca1) k ((ps.take k).flatMap pcells) := HROW.out
  have HRW := Lib.hid hRW
  have hbase : w.heap.size + 1 + 1 + 1 ≤ w1.drew.heap.size := by show _ ≤ w1.heap.size; omega
  clear hl1 h11 hSW hRW
  go_region_law (refine step31 (by rfl) (.tmp 25) (.tmp 30) (by rfl) (by rfl) (by rfl) HRW.out (news := (ps.drop (k+1)).flatMap pcells) HL1.out HSW.out H11.out (by omega) hbase ?_; intro A2 ca2 w2 hown2 hgr; obtain ⟨Z0, Z1, Z2, hz⟩ := rtake_world HY.out HBX.out HRW.out hgr; have n0 := Z0.cell 0; have nl := Z0.lt; have r0 := Z1.cell 0; have rf := Z1.free 0; have rl := Z1.lt; have f0 := Z2.cell 0; have f1 := Z2.cell 1; have f2 := Z2.cell 2; have f3 := Z2.cell 3; have ff0 := Z2.free 0; have ff1 := Z2.free 1; have ff2 := Z2.free 2; have ff3 := Z2.free 3; have fl := Z2.lt; simp only [List.getElem?_toArray, List.getElem?_cons_zero, List.getElem?_cons_succ] at n0 r0 f0 f1 f2 f3; have d0 := (hz.cell (p := ⟨g, o + k * 4, none⟩) hgw).trans C0.out; have d1 := (hz.cell (p := ⟨g, o + k * 4 + 1, none⟩) hgw).trans C1.out; have d2 := (hz.cell (p := ⟨g, o + k * 4 + 2, none⟩) hgw).trans C2.out; have d3 := (hz.cell (p := ⟨g, o + k * 4 + 3, none⟩) hgw).trans C3.out; have HO2 := Lib.hid hown2; have HZ := Lib.hid (And.intro Z0 (And.intro Z1 (And.intro Z2 hz))); clear Z0 Z1 Z2 hz hown2 hgr)
  all_goals go_wp2
  all_goals
    obtain ⟨Z0, Z1, Z2, hz⟩ := HZ.out
    have HF := rtake_fin HPS.out HBY.out hpl hkl HB.out Z1 Z2 hz HO2.out (by omega)
    exact bodyPost_ret (v := .tuple #[.agg #[.slice A2 (k + (fs.length - (k + 1))) ca2], .agg #[.int .i64 pf.fr, .int .i64 pf.to, .slice bA pf.b.length bc, .bool pf.bad], .int .i64 0]) (by simp [results, Try.results15, go_sem, r0, f0, f1, f2, f3]) rfl ⟨_, _, _, rfl, HF⟩
end Go.Proofs.Ytiognapakadggaa
