/- The reference's Send: the net with one piece more. -/
import Derived.Test.YtiognapakadggaaApp
import Derived.Test.YtiognapakadggaaOne
namespace Go.Proofs.Ytiognapakadggaa
open Go.RowKit

theorem fls_len {ps : List (Fl × Value)} {fs : List Fl} (h : ps.map (·.1) = fs) : ps.length = fs.length := by
  have := congrArg List.length h
  simpa using this

theorem SrcAt.later {w w' : World} {A : Option Addr} {m : Nat} {news : List Value} (h : SrcAt w A m news) (hb : Below w.heap.size w w') : SrcAt w' A m news := by
  intro hp
  obtain ⟨g, o, rfl, hc⟩ := h hp
  exact ⟨g, o, rfl, fun j u hu => cell_later hb (hc j u hu)⟩
theorem SrcAt.lit (w : World) (cs : Array Value) (t : TypeId) (m k : Nat) (hk : k = w.heap.size) : SrcAt (w.alloc (.cells cs t)) (some ⟨k, 0, none⟩) m cs.toList := by
  subst hk
  intro _
  refine ⟨_, 0, rfl, fun j u hu => ?_⟩
  rw [Nat.zero_add, (HasBlk.fresh w t cs).cell j]
  simpa using hu
theorem pcells_one {w : World} {p : Fl × Value} (h : BytesAt w p.2 p.1.b) : ∀ u ∈ pcells p, u.oneCell' = true := by
  have := pflat_one (ps := [p]) (w := w) (fun q hq => by rw [List.mem_singleton] at hq; rw [hq]; exact h)
  simpa using this
theorem row_net {w w' : World} {base : Nat} {v : Value} {ps : List (Fl × Value)} {fs : List Fl} (ho : w'.ownsRow base 31 4 v ps.length (ps.flatMap pcells)) (hb : ∀ p ∈ ps, BytesAt w p.2 p.1.b) (hw : Below w.heap.size w w') (hfs : ps.map (·.1) = fs) : NetAt w' v fs :=
  hfs ▸ row_netAt ho (fun p hp => (hb p hp).later hw)

set_option maxHeartbeats 1000000 in
theorem rsend_full (v : Value) (fs : List Fl) (fv tv : Int) (bv : Value) (w : World) (h : NetAt w v fs) (hf : 40 ≤ fs.length) : Calls Try.prog 13 #[.agg #[v], .int .i64 fv, .int .i64 tv, bv] w (NetB w fs false) := by
  obtain ⟨A, c, rfl⟩ := h.shape
  have HN := Lib.hid h
  have h1 : (40 : Int) ≤ (fs.length : Int) := by omega
  clear h
  go_enter Try.func13, Try.ntmps13
  go_wp2
  have hB : Below w.heap.size w ((w.alloc (.cells #[.slice A fs.length c] 26)).alloc (.cells #[.slice A fs.length c] 26)) := by
    repeat (first | exact Below.refl _ _ | refine Below.setCell ?_ (by first | omega | (simp; done) | (simp; omega)) _ | refine Below.alloc ?_ (by first | omega | (simp; done) | (simp; omega)) _)
  exact bodyPost_ret (v := .tuple #[.agg #[.slice A fs.length c], .bool false]) (by simp [results, Try.results13, go_sem]) rfl ⟨_, rfl, HN.out.later hB, hB⟩

set_option maxHeartbeats 2000000 in
theorem rsend_ok (v : Value) (fs : List Fl) (fv tv : Int) (bv : Value) (b : List UInt8) (w : World) (h : NetAt w v fs) (hv : BytesAt w bv b) (hroom : fs.length < 40) : Calls Try.prog 13 #[.agg #[v], .int .i64 fv, .int .i64 tv, bv] w (NetB w (fs ++ [⟨fv, tv, b, false⟩]) true) := by
  obtain ⟨A, c, ps, rfl, hps, hby, hsrc⟩ := h.row
  obtain ⟨bA, bc, rfl⟩ := hv.shape
  have hpl := fls_len hps
  have HPS := Lib.hid hps
  have HBY := Lib.hid hby
  have HSRC : Hid (SrcAt w A fs.length (ps.flatMap pcells)) := Lib.hid hsrc
  have HV := Lib.hid hv
  have h1 : ¬ (40 : Int) ≤ (fs.length : Int) := by omega
  clear h hv hps hby hsrc
  go_enter Try.func13, Try.ntmps13
  go_wp2_with (at_builtin; refine app31n rfl (.const (.slice none 0 0)) (.tmp 17) rfl rfl rfl (by rw [pflat_length, hpl]) ?hs (pflat_one HBY.out) (by omega) ?_)
  case hs => exact HSRC.out.later (((Below.refl _ _).alloc (Nat.le_refl _) _).alloc (by simp) _)
  intro A1 c1 w1 hown1 hb1
  have X1 := (HasBlk.fresh (w.alloc (.cells #[.slice A fs.length c] 26)) 26 #[.slice none 0 0]).later (by simpa using hb1)
  simp only [World.size_alloc] at X1
  have x1 := X1.cell 0
  have xl := X1.lt
  have hB1 : Below w.heap.size w w1 := below_on (W := (w.alloc (.cells #[.slice A fs.length c] 26)).alloc (.cells #[.slice none 0 0] 26)) (by simp; omega) (((Below.refl _ _).alloc (Nat.le_refl _) _).alloc (by simp) _) (by simpa using hb1)
  have HROW := Lib.hid hown1
  have HX1 := Lib.hid X1
  have HB1 := Lib.hid hB1
  simp only [List.getElem?_toArray, List.getElem?_cons_zero] at x1
  clear hown1 hb1 X1 hB1
  go_wp2_with (at_builtin; refine app31 rfl (.tmp 19) (.tmp 24) rfl rfl rfl (HROW.out.alloc _) (news := pcells (⟨fv, tv, b, false⟩, .slice bA b.length bc)) rfl (SrcAt.lit _ _ _ _ _ rfl) (pcells_one HV.out) (by omega) (by simp; omega) ?_)
  intro A2 c2 w2 hown2 hgr
  have low := (HB1.out.alloc HB1.out.size (.cells #[.int .i64 fv, .int .i64 tv, .slice bA b.length bc, .bool false] 31)).grown hgr (by have := HB1.out.size; simp; omega) (fun r hr => by have := (World.ownsRow.lt HROW.out r hr).1; omega)
  have X2 := (HX1.out.past (.cells #[.int .i64 fv, .int .i64 tv, .slice bA b.length bc, .bool false] 31)).grown hgr (own_ne HROW.out HX1.out (by decide))
  have y1 := X2.cell 0
  have yf := X2.free 0
  have yl := X2.lt
  simp only [List.getElem?_toArray, List.getElem?_cons_zero] at y1
  have hnet := row_net (v := .slice A2 (fs.length + 1) c2) (ps := ps ++ [(⟨fv, tv, b, false⟩, .slice bA b.length bc)]) (fs := fs ++ [⟨fv, tv, b, false⟩]) (by rw [List.flatMap_append]; simpa [hpl] using hown2) (fun p hp => by
    rcases List.mem_append.1 hp with hp | hp
    · exact HBY.out p hp
    · rw [List.mem_singleton] at hp
      subst hp
      exact HV.out) low (by rw [List.map_append, HPS.out]; rfl)
  have HFIN := Lib.hid (hnet.box X2 (.slice A2 (fs.length + 1) c2))
  have HLOW := Lib.hid (low.setCell (p := ⟨w.heap.size + 1, 0, none⟩) (by dsimp only; omega) (.slice A2 (fs.length + 1) c2))
  clear hown2 hgr low X2 hnet
  go_wp2
  exact bodyPost_ret (v := .tuple #[.agg #[.slice A2 (fs.length + 1) c2], .bool true]) (by simp [results, Try.results13, go_sem, y1]) rfl ⟨_, rfl, HFIN.out, HLOW.out⟩
end Go.Proofs.Ytiognapakadggaa
