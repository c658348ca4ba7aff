/- net.Send: a full net stays; else the piece is added, with bytes of its own; in new memory alone. -/
import Derived.Test.YtiognapakadggaaTake
import Derived.Deep.RegionLaw
import Derived.Deep.AppendLies
namespace Go.Proofs.Ytiognapakadggaa
open Go.RowKit

def SendR (w : World) (fs : List Fl) (ok : Bool) (e : Ending) (w' : World) : Prop :=
  ∃ v, e = .returned (.tuple #[.agg #[v], .bool ok]) ∧ Fresh w' w.heap.size v fs ∧ Below w.heap.size w w'

set_option maxRecDepth 100000 in
set_option maxHeartbeats 4000000 in
theorem send_full (v : Value) (fs : List Fl) (fv tv : Int) (bv : Value) (b : List UInt8) (w : World) (h : NetAt w v fs) (hv : BytesAt w bv b) (hn : fs.length ≤ 1000) (hl : ∀ f ∈ fs, f.b.length ≤ 1000000)  (hfull : 40 ≤ fs.length) :
    Calls Try.prog 8 #[.agg #[v], .int .i64 fv, .int .i64 tv, bv] w (SendR w fs false) := by
  obtain ⟨A, c, rfl⟩ : ∃ A c, v = .slice A fs.length c := by obtain ⟨A, c, h, _⟩ := h; exact ⟨A, c, h⟩
  obtain ⟨bA, bc, rfl⟩ : ∃ bA bc, bv = .slice bA b.length bc := by obtain ⟨bA, bc, h, _⟩ := hv; exact ⟨bA, bc, h⟩
  have HN := Lib.hid h
  have HV := Lib.hid hv
  have HL := Lib.hid hl
  clear h hv hl
  have hf : (40 : Int) ≤ (fs.length : Int) := by omega
  go_enter Try.func8, Try.ntmps8
  go_wp2_with fail
  have hB0 : Below w.heap.size w ((w.alloc (.cells #[.slice A fs.length c] 26)).alloc (.cells #[.slice none 0 0] 26)) := by
    repeat (first | exact Below.refl _ _ | refine Below.alloc ?_ (by first | omega | (simp; done) | (simp; omega)) _)
  have X0 := (HasBlk.fresh w 26 #[.slice A fs.length c]).past (.cells #[.slice none 0 0] 26)
  have X1 := HasBlk.fresh (w.alloc (.cells #[.slice A fs.length c] 26)) 26 #[.slice none 0 0]
  simp only [World.size_alloc] at X1
  refine (all_any _ fs _ (HN.out.later hB0) hn HL.out).mono ?_
  rintro e w1 ⟨v1, rfl, hfr, hb1⟩
  obtain ⟨A1, c1, rfl⟩ := hfr.shape
  have Y0 := X0.later hb1
  have Y1 := X1.later hb1
  have hz1 : w.heap.size + 1 < w1.heap.size := Y1.lt
  have hB1 : Below w.heap.size w w1 := below_on hB0.size hB0 hb1
  have hfr1 := hfr.weaken (base' := w.heap.size + 1 + 1) (by simp)
  have Z0 := Y0.put 0 (.slice A1 fs.length c1)
  have Z1 := Y1.off (p := ⟨w.heap.size, 0, none⟩) (by dsimp only; omega) (.slice A1 fs.length c1)
  have F6 := hfr1.put_low (b := w.heap.size) (by omega) 0 (.slice A1 fs.length c1)
  have hB6 := hB1.setCell (p := ⟨w.heap.size, 0, none⟩) (Nat.le_refl _) (.slice A1 fs.length c1)
  have y0 := Y0.cell 0
  have y1 := Y1.cell 0
  have yf0 := Y0.free 0
  have yf1 := Y1.free 0
  simp at y0 y1
  have HF6 := Lib.hid F6
  have HB6 := Lib.hid hB6
  have HZ0 := Lib.hid Z0
  have HZ1 := Lib.hid Z1
  clear X0 X1 Y0 Y1 Z0 Z1 F6 hB6 hfr hfr1 hb1 hB0
  go_wp2
  have FR := HF6.out.put_low (b := w.heap.size + 1) (by omega) 0 (.slice A1 fs.length c1)
  exact bodyPost_ret (v := .tuple #[.agg #[.slice A1 fs.length c1], .bool false]) (by simp [results, Try.results8, go_sem, y1]) rfl ⟨_, rfl, FR.weaken (by omega), HB6.out.setCell (by dsimp only; omega) _⟩

set_option maxRecDepth 100000 in
set_option maxHeartbeats 4000000 in
theorem send_ok (v : Value) (fs : List Fl) (fv tv : Int) (bv : Value) (b : List UInt8) (w : World) (h : NetAt w v fs) (hv : BytesAt w bv b) (hn : fs.length ≤ 1000) (hl : ∀ f ∈ fs, f.b.length ≤ 1000000)  (hbl : b.length ≤ 1000000) (hroom : fs.length < 40) :
    Calls Try.prog 8 #[.agg #[v], .int .i64 fv, .int .i64 tv, bv] w (SendR w (fs ++ [⟨fv, tv, b, false⟩]) true) := by
  obtain ⟨A, c, rfl⟩ : ∃ A c, v = .slice A fs.length c := by obtain ⟨A, c, h, _⟩ := h; exact ⟨A, c, h⟩
  obtain ⟨bA, bc, rfl⟩ : ∃ bA bc, bv = .slice bA b.length bc := by obtain ⟨bA, bc, h, _⟩ := hv; exact ⟨bA, bc, h⟩
  have HN := Lib.hid h
  have HV := Lib.hid hv
  have HL := Lib.hid hl
  clear h hv hl
  obtain ⟨i31, hi0, hz0, hz1, hz2⟩ := info_parts Try.info31
  have HI0 := Lib.hid hi0
  have HZZ := Lib.hid hz0
  have HZ1' := Lib.hid hz1
  have HZ2' := Lib.hid hz2
  clear hi0 hz0 hz1 hz2
  have hf : ((40 : Int) ≤ (fs.length : Int)) = False := by simp; omega
  go_enter Try.func8, Try.ntmps8
  go_wp2_with fail
  have hB0 : Below w.heap.size w ((w.alloc (.cells #[.slice A fs.length c] 26)).alloc (.cells #[.slice none 0 0] 26)) := by
    repeat (first | exact Below.refl _ _ | refine Below.alloc ?_ (by first | omega | (simp; done) | (simp; omega)) _)
  have X0 := (HasBlk.fresh w 26 #[.slice A fs.length c]).past (.cells #[.slice none 0 0] 26)
  have X1 := HasBlk.fresh (w.alloc (.cells #[.slice A fs.length c] 26)) 26 #[.slice none 0 0]
  simp only [World.size_alloc] at X1
  refine (all_any _ fs _ (HN.out.later hB0) hn HL.out).mono ?_
  rintro e w1 ⟨v1, rfl, hfr, hb1⟩
  obtain ⟨A1, c1, rfl⟩ := hfr.shape
  have Y0 := X0.later hb1
  have Y1 := X1.later hb1
  have hz1 : w.heap.size + 1 < w1.heap.size := Y1.lt
  have hB1 : Below w.heap.size w w1 := below_on hB0.size hB0 hb1
  have hfr1 := hfr.weaken (base' := w.heap.size + 1 + 1) (by simp)
  have Z0 := Y0.put 0 (.slice A1 fs.length c1)
  have Z1 := Y1.off (p := ⟨w.heap.size, 0, none⟩) (by dsimp only; omega) (.slice A1 fs.length c1)
  have F6 := hfr1.put_low (b := w.heap.size) (by omega) 0 (.slice A1 fs.length c1)
  have hB6 := hB1.setCell (p := ⟨w.heap.size, 0, none⟩) (Nat.le_refl _) (.slice A1 fs.length c1)
  have y0 := Y0.cell 0
  have y1 := Y1.cell 0
  have yf0 := Y0.free 0
  have yf1 := Y1.free 0
  simp at y0 y1
  have HF6 := Lib.hid F6
  have HB6 := Lib.hid hB6
  have HZ0 := Lib.hid Z0
  have HZ1 := Lib.hid Z1
  clear X0 X1 Y0 Y1 Z0 Z1 F6 hB6 hfr hfr1 hb1 hB0
  go_wp2_with fail
  have hzW : w.heap.size + 1 < (w1.setCell ⟨w.heap.size, 0, none⟩ (.slice A1 fs.length c1)).heap.size := HZ1.out.lt
  generalize hW : w1.setCell ⟨w.heap.size, 0, none⟩ (.slice A1 fs.length c1) = W at *
  clear hW y0 y1 yf0 yf1
  have r0 := HZ0.out.cell 0
  have rf0 := HZ0.out.free 0
  simp at r0
  go_region_law (first
    | (go_simp; go_at_call 25; refine (bytes_any _ b _ (HV.out.later HB6.out.drew) hbl).mono ?_; rintro e w2 ⟨g2, rfl, hg2, hblk, hb2⟩; have T0 := HasBlk.later (HasBlk.drawn HZ0.out) hb2; have t0 := T0.cell 0; have tf0 := T0.free 0; simp at t0; obtain ⟨ps, hps, hpw, hpb, hpo⟩ := HF6.out; have hpl : ps.length = fs.length := (by have := congrArg List.length hps; simpa using this); have PO := own_below (World.ownsRow.drew hpo) hb2; have HPS := Lib.hid hps; have HPW := Lib.hid hpw; have HPB := Lib.hid hpb; have HPO := Lib.hid hpo; have HPO2 := Lib.hid PO; have HG := Lib.hid hblk; have hz2 : W.heap.size ≤ w2.heap.size := hb2.size; have hzN : w.heap.size < w2.heap.size := (by omega); clear hps hpw hpb hpo PO hblk)
    | (refine step_append_lies _ (by rfl) (.tmp 18) (.tmp 24) 24 (by rfl) (w.heap.size + 1 + 1) 31 i31 _ 4 48 Try.underlying24 HI0.out HZZ.out HZ1'.out HZ2'.out rfl (by decide) (.slice A1 fs.length c1) ps.length (ps.flatMap cellsOf) (by rfl) (HPO2.out.alloc _) ⟨w2.heap.size, 0, none⟩ 1 1 (cellsOf (⟨fv, tv, b, false⟩, g2)) (by rfl) (by rfl) (World.news_of_block (cs := #[.int .i64 fv, .int .i64 tv, .slice (some ⟨g2, 0, none⟩) b.length b.length, .bool false]) (t := 31) (fr := (0, 0)) (heap_alloc_new w2 _)) (by simp [cellsOf, Value.oneCell']) (by omega) (by simp only [maxLen]; omega) (by omega) (by simp; omega) (w2.heap.size + 1) (by simp) ?_; intro gg cap w3 hown3 hgrow hat hlt; have T3 := HasBlk.grown (HasBlk.past T0 (.cells #[.int .i64 fv, .int .i64 tv, .slice (some ⟨g2, 0, none⟩) b.length b.length, .bool false] 31)) hgrow (fun he => (by have := (World.ownsRow.lt HPO2.out _ he).1; omega)); have t3 := T3.cell 0; have tf3 := T3.free 0; simp at t3; have U3 := HasBlk.grown (HasBlk.past (HasBlk.later (HasBlk.drawn HZ1.out) hb2) (.cells #[.int .i64 fv, .int .i64 tv, .slice (some ⟨g2, 0, none⟩) b.length b.length, .bool false] 31)) hgrow (fun he => (by have := (World.ownsRow.lt HPO2.out _ he).1; omega)); have u3 := U3.cell 0; have uf3 := U3.free 0; simp at u3; have HGROW := Lib.hid hgrow; have HOWN3 := Lib.hid hown3; clear hgrow hown3 hat))
  all_goals
    go_wp2
    have hbW : Below W.heap.size W w2 := below_on (W := W.drew) (Nat.le_refl _) (Below.refl W.heap.size W).drew hb2
    have hbw2 : Below w.heap.size w w2 := below_on (W := W.drew) HB6.out.size HB6.out.drew hb2
    have FR := Fresh.more (f := ⟨fv, tv, b, false⟩) (hbW.alloc hz2 (.cells #[.int .i64 fv, .int .i64 tv, .slice (some ⟨g2, 0, none⟩) b.length b.length, .bool false] 31)) (HG.out.past _) hg2 (by omega) ps HPS.out HPW.out HPB.out (own_ne_new HPO.out hg2) (fun p hp => own_ne HPO.out (HPB.out p hp).2 (by decide)) HOWN3.out HGROW.out
    rw [hpl] at FR
    have FR2 := (FR.put_low (b := w.heap.size) (by omega) 0 (.slice (some ⟨gg, 0, none⟩) (fs.length + 1) cap)).put_low (b := w.heap.size + 1) (by omega) 0 (.slice (some ⟨gg, 0, none⟩) (fs.length + 1) cap)
    have BF : Below w.heap.size w w3 := (hbw2.alloc hbw2.size (.cells #[.int .i64 fv, .int .i64 tv, .slice (some ⟨g2, 0, none⟩) b.length b.length, .bool false] 31)).grown HGROW.out (by have := hbw2.size; simp; omega) (fun r hr => by have := (World.ownsRow.lt HPO2.out _ hr).1; omega)
    exact bodyPost_ret (v := .tuple #[.agg #[.slice (some ⟨gg, 0, none⟩) (fs.length + 1) cap], .bool true]) (by simp [results, Try.results8, go_sem, u3]) rfl ⟨_, rfl, FR2.weaken (by omega), (BF.setCell (p := ⟨w.heap.size, 0, none⟩) (Nat.le_refl _) _).setCell (p := ⟨w.heap.size + 1, 0, none⟩) (by dsimp only; omega) _⟩
end Go.Proofs.Ytiognapakadggaa
