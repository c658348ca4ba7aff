/- net.Turn, walked. -/
import Derived.Test.YtiognapakadggaaTurnL
namespace Go.Proofs.Ytiognapakadggaa
open Go.RowKit

set_option maxHeartbeats 1000000 in
theorem turn_none (v : Value) (i a : Int) (by_ : Int) (w : World) (h : NetAt w v []) : Calls Try.prog 20 #[.agg #[v], .int .i64 i, .int .i64 a, .int .u8 by_] w (ErrR w 4) := by
  obtain ⟨A, c, rfl, _⟩ := h
  go_enter Try.func20, Try.ntmps20
  go_wp2
  refine bodyPost_ret (v := .tuple #[.agg #[.slice none 0 0], .int .i64 4]) (by simp [results, Try.results20, go_sem]) rfl ⟨rfl, ?_⟩
  repeat (first | exact Below.refl _ _ | refine Below.setCell ?_ (by simp; try omega) _ | refine Below.alloc ?_ (by first | omega | (simp; done) | (simp; omega)) _)

set_option maxRecDepth 100000 in
set_option maxHeartbeats 4000000 in
theorem turn_bad (v : Value) (fs : List Fl) (i a : Int) (y : UInt8) (k : Nat) (f : Fl) (w : World) (h : NetAt w v fs) (hf : fs[k]? = some f) (hk : ofI i fs.length = k) (hi : i ≤ 9223372036854775807) (hn : fs.length ≤ 1000) (hl : ∀ f ∈ fs, f.b.length ≤ 1000000) (hbad : f.bad = true) :
    Calls Try.prog 20 #[.agg #[v], .int .i64 i, .int .i64 a, .int .u8 (y.toNat : Int)] w (ErrR w 6) := by
  have hkl : k < fs.length := (List.getElem?_eq_some_iff.1 hf).1
  obtain ⟨A, c, rfl⟩ : ∃ A c, v = .slice A fs.length c := by obtain ⟨A, c, h, _⟩ := h; exact ⟨A, c, h⟩
  have HN := Lib.hid h
  have HL := Lib.hid hl
  have HK := Lib.hid hk
  have HF := Lib.hid hf
  have hp : (0 : Int) < (fs.length : Int) := by omega
  have hp2 : (fs.length : Int) ≤ 9223372036854775807 := by omega
  have he : ((fs.length : Int) == 0) = false := by rw [beq_eq_false_iff_ne]; omega
  have hk0 : (0 : Int) ≤ (k : Int) := by omega
  have hk1 : (k : Int) < (fs.length : Int) := by omega
  clear h hl hk hf
  go_enter Try.func20, Try.ntmps20
  go_wp2_with fail
  have hB0 : Below w.heap.size w ((w.alloc (.cells #[.slice A fs.length c] 26)).alloc (.cells #[.slice none 0 0] 26)) := by
    repeat (first | exact Below.refl _ _ | refine Below.alloc ?_ (by first | omega | (simp; done) | (simp; omega)) _)
  have X0 := (HasBlk.fresh w 26 #[.slice A fs.length c]).past (.cells #[.slice none 0 0] 26)
  have X1 := HasBlk.fresh (w.alloc (.cells #[.slice A fs.length c] 26)) 26 #[.slice none 0 0]
  simp only [World.size_alloc] at X1
  refine (all_any _ fs _ (HN.out.later hB0) hn HL.out).mono ?_
  rintro e w1 ⟨v1, rfl, hfr, hb1⟩
  obtain ⟨g, c1, bk, rfl, hbg, hbb, hBK, hcell, hfree, hgb, hgl, hturn⟩ := hfr.at_ HF.out
  have Y0 := X0.later hb1
  have Y1 := X1.later hb1
  have hz1 : w.heap.size + 1 < w1.heap.size := Y1.lt
  have hB1 : Below w.heap.size w w1 := below_on hB0.size hB0 hb1
  simp only [World.size_alloc] at hbg hbb
  have hfr1 := hfr.weaken (base' := w.heap.size + 1 + 1) (by simp)
  have Z0 := Y0.put 0 (.slice (some ⟨g, 0, none⟩) fs.length c1)
  have Z1 := Y1.off (p := ⟨w.heap.size, 0, none⟩) (by dsimp only; omega) (.slice (some ⟨g, 0, none⟩) fs.length c1)
  have F6 := hfr1.put_low (b := w.heap.size) (by omega) 0 (.slice (some ⟨g, 0, none⟩) fs.length c1)
  have hB6 := hB1.setCell (p := ⟨w.heap.size, 0, none⟩) (Nat.le_refl _) (.slice (some ⟨g, 0, none⟩) fs.length c1)
  have y0 := Y0.cell 0
  have yf0 := Y0.free 0
  simp at y0
  have HF6 := Lib.hid F6
  have HB6 := Lib.hid hB6
  have HZ0 := Lib.hid Z0
  have HZ1 := Lib.hid Z1
  clear X0 X1 Y0 Y1 Z0 Z1 F6 hB6 hfr hfr1 hb1 hB0 hcell hfree hturn hBK hgl hgb hbg hbb bk
  go_wp2_with fail
  have hzW : w.heap.size + 1 < (w1.setCell ⟨w.heap.size, 0, none⟩ (.slice (some ⟨g, 0, none⟩) fs.length c1)).heap.size := HZ1.out.lt
  generalize hW : w1.setCell ⟨w.heap.size, 0, none⟩ (.slice (some ⟨g, 0, none⟩) fs.length c1) = W at *
  clear hW y0 yf0 hz1 hB1 w1
  have r0 := HZ0.out.cell 0
  have r1 := HZ1.out.cell 0
  have rf1 := HZ1.out.free 0
  simp at r0 r1
  obtain ⟨g', c1', bk, hv', hbg, hbb, hBK, hcell, hfree, hgb, hgl, hturn⟩ := HF6.out.at_ HF.out
  simp only [Value.slice.injEq, Option.some.injEq, Addr.mk.injEq, and_true, true_and] at hv'
  obtain ⟨rfl, rfl⟩ := hv'
  have x0 := hcell 0 (by omega)
  have x1 := hcell 1 (by omega)
  have x2 := hcell 2 (by omega)
  have x3 := hcell 3 (by omega)
  have xf3 := hfree (k * 4 + 3)
  simp only [cellsOf, List.getElem?_cons_zero, List.getElem?_cons_succ, Nat.add_zero] at x0 x1 x2 x3
  have HTURN := Lib.hid hturn
  have HBK := Lib.hid hBK
  clear hcell hfree hturn hBK
  go_quiet ((go_at_call 26; exact Calls.quiet_of_same (of_is _ _ _ hp hp2 hi HK.out)))
  rw [hbad] at x3
  clear hbad
  go_wp2
  refine bodyPost_ret (v := .tuple #[.agg #[.slice none 0 0], .int .i64 6]) (by simp [results, Try.results20, go_sem, r1]) rfl ⟨rfl, ?_⟩
  first
  | exact (drewN_below HB6.out nq).setCell (p := ⟨w.heap.size + 1, 0, none⟩) (by dsimp only; omega) _
  | exact drewN_below HB6.out nq

set_option maxRecDepth 100000 in
set_option maxHeartbeats 4000000 in
theorem turn_zero (v : Value) (fs : List Fl) (i a : Int) (y : UInt8) (k : Nat) (f : Fl) (w : World) (h : NetAt w v fs) (hf : fs[k]? = some f) (hk : ofI i fs.length = k) (hi : i ≤ 9223372036854775807) (hn : fs.length ≤ 1000) (hl : ∀ f ∈ fs, f.b.length ≤ 1000000) (hbad : f.bad = false) (hy : ((y.toNat : Int) == 0) = true) :
    Calls Try.prog 20 #[.agg #[v], .int .i64 i, .int .i64 a, .int .u8 (y.toNat : Int)] w (ErrR w 1) := by
  have hkl : k < fs.length := (List.getElem?_eq_some_iff.1 hf).1
  obtain ⟨A, c, rfl⟩ : ∃ A c, v = .slice A fs.length c := by obtain ⟨A, c, h, _⟩ := h; exact ⟨A, c, h⟩
  have HN := Lib.hid h
  have HL := Lib.hid hl
  have HK := Lib.hid hk
  have HF := Lib.hid hf
  have hp : (0 : Int) < (fs.length : Int) := by omega
  have hp2 : (fs.length : Int) ≤ 9223372036854775807 := by omega
  have he : ((fs.length : Int) == 0) = false := by rw [beq_eq_false_iff_ne]; omega
  have hk0 : (0 : Int) ≤ (k : Int) := by omega
  have hk1 : (k : Int) < (fs.length : Int) := by omega
  clear h hl hk hf
  go_enter Try.func20, Try.ntmps20
  go_wp2_with fail
  have hB0 : Below w.heap.size w ((w.alloc (.cells #[.slice A fs.length c] 26)).alloc (.cells #[.slice none 0 0] 26)) := by
    repeat (first | exact Below.refl _ _ | refine Below.alloc ?_ (by first | omega | (simp; done) | (simp; omega)) _)
  have X0 := (HasBlk.fresh w 26 #[.slice A fs.length c]).past (.cells #[.slice none 0 0] 26)
  have X1 := HasBlk.fresh (w.alloc (.cells #[.slice A fs.length c] 26)) 26 #[.slice none 0 0]
  simp only [World.size_alloc] at X1
  refine (all_any _ fs _ (HN.out.later hB0) hn HL.out).mono ?_
  rintro e w1 ⟨v1, rfl, hfr, hb1⟩
  obtain ⟨g, c1, bk, rfl, hbg, hbb, hBK, hcell, hfree, hgb, hgl, hturn⟩ := hfr.at_ HF.out
  have Y0 := X0.later hb1
  have Y1 := X1.later hb1
  have hz1 : w.heap.size + 1 < w1.heap.size := Y1.lt
  have hB1 : Below w.heap.size w w1 := below_on hB0.size hB0 hb1
  simp only [World.size_alloc] at hbg hbb
  have hfr1 := hfr.weaken (base' := w.heap.size + 1 + 1) (by simp)
  have Z0 := Y0.put 0 (.slice (some ⟨g, 0, none⟩) fs.length c1)
  have Z1 := Y1.off (p := ⟨w.heap.size, 0, none⟩) (by dsimp only; omega) (.slice (some ⟨g, 0, none⟩) fs.length c1)
  have F6 := hfr1.put_low (b := w.heap.size) (by omega) 0 (.slice (some ⟨g, 0, none⟩) fs.length c1)
  have hB6 := hB1.setCell (p := ⟨w.heap.size, 0, none⟩) (Nat.le_refl _) (.slice (some ⟨g, 0, none⟩) fs.length c1)
  have y0 := Y0.cell 0
  have yf0 := Y0.free 0
  simp at y0
  have HF6 := Lib.hid F6
  have HB6 := Lib.hid hB6
  have HZ0 := Lib.hid Z0
  have HZ1 := Lib.hid Z1
  clear X0 X1 Y0 Y1 Z0 Z1 F6 hB6 hfr hfr1 hb1 hB0 hcell hfree hturn hBK hgl hgb hbg hbb bk
  go_wp2_with fail
  have hzW : w.heap.size + 1 < (w1.setCell ⟨w.heap.size, 0, none⟩ (.slice (some ⟨g, 0, none⟩) fs.length c1)).heap.size := HZ1.out.lt
  generalize hW : w1.setCell ⟨w.heap.size, 0, none⟩ (.slice (some ⟨g, 0, none⟩) fs.length c1) = W at *
  clear hW y0 yf0 hz1 hB1 w1
  have r0 := HZ0.out.cell 0
  have r1 := HZ1.out.cell 0
  have rf1 := HZ1.out.free 0
  simp at r0 r1
  obtain ⟨g', c1', bk, hv', hbg, hbb, hBK, hcell, hfree, hgb, hgl, hturn⟩ := HF6.out.at_ HF.out
  simp only [Value.slice.injEq, Option.some.injEq, Addr.mk.injEq, and_true, true_and] at hv'
  obtain ⟨rfl, rfl⟩ := hv'
  have x0 := hcell 0 (by omega)
  have x1 := hcell 1 (by omega)
  have x2 := hcell 2 (by omega)
  have x3 := hcell 3 (by omega)
  have xf3 := hfree (k * 4 + 3)
  simp only [cellsOf, List.getElem?_cons_zero, List.getElem?_cons_succ, Nat.add_zero] at x0 x1 x2 x3
  have HTURN := Lib.hid hturn
  have HBK := Lib.hid hBK
  clear hcell hfree hturn hBK
  go_quiet ((go_at_call 26; exact Calls.quiet_of_same (of_is _ _ _ hp hp2 hi HK.out)))
  rw [hbad] at x3
  clear hbad
  go_wp2
  refine bodyPost_ret (v := .tuple #[.agg #[.slice none 0 0], .int .i64 1]) (by simp [results, Try.results20, go_sem, r1]) rfl ⟨rfl, ?_⟩
  first
  | exact (drewN_below HB6.out nq).setCell (p := ⟨w.heap.size + 1, 0, none⟩) (by dsimp only; omega) _
  | exact drewN_below HB6.out nq

set_option maxRecDepth 100000 in
set_option maxHeartbeats 4000000 in
theorem turn_void (v : Value) (fs : List Fl) (i a : Int) (y : UInt8) (k : Nat) (f : Fl) (w : World) (h : NetAt w v fs) (hf : fs[k]? = some f) (hk : ofI i fs.length = k) (hi : i ≤ 9223372036854775807) (hn : fs.length ≤ 1000) (hl : ∀ f ∈ fs, f.b.length ≤ 1000000) (hbad : f.bad = false) (hy : ((y.toNat : Int) == 0) = false) (hb : ((f.b.length : Int) == 0) = true) :
    Calls Try.prog 20 #[.agg #[v], .int .i64 i, .int .i64 a, .int .u8 (y.toNat : Int)] w (ErrR w 1) := by
  have hkl : k < fs.length := (List.getElem?_eq_some_iff.1 hf).1
  obtain ⟨A, c, rfl⟩ : ∃ A c, v = .slice A fs.length c := by obtain ⟨A, c, h, _⟩ := h; exact ⟨A, c, h⟩
  have HN := Lib.hid h
  have HL := Lib.hid hl
  have HK := Lib.hid hk
  have HF := Lib.hid hf
  have hp : (0 : Int) < (fs.length : Int) := by omega
  have hp2 : (fs.length : Int) ≤ 9223372036854775807 := by omega
  have he : ((fs.length : Int) == 0) = false := by rw [beq_eq_false_iff_ne]; omega
  have hk0 : (0 : Int) ≤ (k : Int) := by omega
  have hk1 : (k : Int) < (fs.length : Int) := by omega
  clear h hl hk hf
  go_enter Try.func20, Try.ntmps20
  go_wp2_with fail
  have hB0 : Below w.heap.size w ((w.alloc (.cells #[.slice A fs.length c] 26)).alloc (.cells #[.slice none 0 0] 26)) := by
    repeat (first | exact Below.refl _ _ | refine Below.alloc ?_ (by first | omega | (simp; done) | (simp; omega)) _)
  have X0 := (HasBlk.fresh w 26 #[.slice A fs.length c]).past (.cells #[.slice none 0 0] 26)
  have X1 := HasBlk.fresh (w.alloc (.cells #[.slice A fs.length c] 26)) 26 #[.slice none 0 0]
  simp only [World.size_alloc] at X1
  refine (all_any _ fs _ (HN.out.later hB0) hn HL.out).mono ?_
  rintro e w1 ⟨v1, rfl, hfr, hb1⟩
  obtain ⟨g, c1, bk, rfl, hbg, hbb, hBK, hcell, hfree, hgb, hgl, hturn⟩ := hfr.at_ HF.out
  have Y0 := X0.later hb1
  have Y1 := X1.later hb1
  have hz1 : w.heap.size + 1 < w1.heap.size := Y1.lt
  have hB1 : Below w.heap.size w w1 := below_on hB0.size hB0 hb1
  simp only [World.size_alloc] at hbg hbb
  have hfr1 := hfr.weaken (base' := w.heap.size + 1 + 1) (by simp)
  have Z0 := Y0.put 0 (.slice (some ⟨g, 0, none⟩) fs.length c1)
  have Z1 := Y1.off (p := ⟨w.heap.size, 0, none⟩) (by dsimp only; omega) (.slice (some ⟨g, 0, none⟩) fs.length c1)
  have F6 := hfr1.put_low (b := w.heap.size) (by omega) 0 (.slice (some ⟨g, 0, none⟩) fs.length c1)
  have hB6 := hB1.setCell (p := ⟨w.heap.size, 0, none⟩) (Nat.le_refl _) (.slice (some ⟨g, 0, none⟩) fs.length c1)
  have y0 := Y0.cell 0
  have yf0 := Y0.free 0
  simp at y0
  have HF6 := Lib.hid F6
  have HB6 := Lib.hid hB6
  have HZ0 := Lib.hid Z0
  have HZ1 := Lib.hid Z1
  clear X0 X1 Y0 Y1 Z0 Z1 F6 hB6 hfr hfr1 hb1 hB0 hcell hfree hturn hBK hgl hgb hbg hbb bk
  go_wp2_with fail
  have hzW : w.heap.size + 1 < (w1.setCell ⟨w.heap.size, 0, none⟩ (.slice (some ⟨g, 0, none⟩) fs.length c1)).heap.size := HZ1.out.lt
  generalize hW : w1.setCell ⟨w.heap.size, 0, none⟩ (.slice (some ⟨g, 0, none⟩) fs.length c1) = W at *
  clear hW y0 yf0 hz1 hB1 w1
  have r0 := HZ0.out.cell 0
  have r1 := HZ1.out.cell 0
  have rf1 := HZ1.out.free 0
  simp at r0 r1
  obtain ⟨g', c1', bk, hv', hbg, hbb, hBK, hcell, hfree, hgb, hgl, hturn⟩ := HF6.out.at_ HF.out
  simp only [Value.slice.injEq, Option.some.injEq, Addr.mk.injEq, and_true, true_and] at hv'
  obtain ⟨rfl, rfl⟩ := hv'
  have x0 := hcell 0 (by omega)
  have x1 := hcell 1 (by omega)
  have x2 := hcell 2 (by omega)
  have x3 := hcell 3 (by omega)
  have xf3 := hfree (k * 4 + 3)
  simp only [cellsOf, List.getElem?_cons_zero, List.getElem?_cons_succ, Nat.add_zero] at x0 x1 x2 x3
  have HTURN := Lib.hid hturn
  have HBK := Lib.hid hBK
  clear hcell hfree hturn hBK
  go_quiet ((go_at_call 26; exact Calls.quiet_of_same (of_is _ _ _ hp hp2 hi HK.out)))
  rw [hbad] at x3
  clear hbad
  go_wp2
  refine bodyPost_ret (v := .tuple #[.agg #[.slice none 0 0], .int .i64 1]) (by simp [results, Try.results20, go_sem, r1]) rfl ⟨rfl, ?_⟩
  first
  | exact (drewN_below HB6.out nq).setCell (p := ⟨w.heap.size + 1, 0, none⟩) (by dsimp only; omega) _
  | exact drewN_below HB6.out nq

set_option maxRecDepth 100000 in
set_option maxHeartbeats 4000000 in
theorem turn_ok (v : Value) (fs : List Fl) (i a : Int) (y : UInt8) (k : Nat) (f : Fl) (w : World) (h : NetAt w v fs) (hf : fs[k]? = some f) (hk : ofI i fs.length = k) (hi : i ≤ 9223372036854775807) (hn : fs.length ≤ 1000) (hl : ∀ f ∈ fs, f.b.length ≤ 1000000) (hbad : f.bad = false) (hy : ((y.toNat : Int) == 0) = false) (hb : ((f.b.length : Int) == 0) = false) (j : Nat) (x : UInt8) (hx : f.b[j]? = some x) (hj : ofI a f.b.length = j) (ha : a ≤ 9223372036854775807) :
    Calls Try.prog 20 #[.agg #[v], .int .i64 i, .int .i64 a, .int .u8 (y.toNat : Int)] w (NetR w (fs.set k (turnF f j (x ^^^ y)))) := by
  have hkl : k < fs.length := (List.getElem?_eq_some_iff.1 hf).1
  obtain ⟨A, c, rfl⟩ : ∃ A c, v = .slice A fs.length c := by obtain ⟨A, c, h, _⟩ := h; exact ⟨A, c, h⟩
  have HN := Lib.hid h
  have HL := Lib.hid hl
  have HK := Lib.hid hk
  have HF := Lib.hid hf
  have hp : (0 : Int) < (fs.length : Int) := by omega
  have hp2 : (fs.length : Int) ≤ 9223372036854775807 := by omega
  have he : ((fs.length : Int) == 0) = false := by rw [beq_eq_false_iff_ne]; omega
  have hk0 : (0 : Int) ≤ (k : Int) := by omega
  have hk1 : (k : Int) < (fs.length : Int) := by omega
  clear h hl hk hf
  go_enter Try.func20, Try.ntmps20
  go_wp2_with fail
  have hB0 : Below w.heap.size w ((w.alloc (.cells #[.slice A fs.length c] 26)).alloc (.cells #[.slice none 0 0] 26)) := by
    repeat (first | exact Below.refl _ _ | refine Below.alloc ?_ (by first | omega | (simp; done) | (simp; omega)) _)
  have X0 := (HasBlk.fresh w 26 #[.slice A fs.length c]).past (.cells #[.slice none 0 0] 26)
  have X1 := HasBlk.fresh (w.alloc (.cells #[.slice A fs.length c] 26)) 26 #[.slice none 0 0]
  simp only [World.size_alloc] at X1
  refine (all_any _ fs _ (HN.out.later hB0) hn HL.out).mono ?_
  rintro e w1 ⟨v1, rfl, hfr, hb1⟩
  obtain ⟨g, c1, bk, rfl, hbg, hbb, hBK, hcell, hfree, hgb, hgl, hturn⟩ := hfr.at_ HF.out
  have Y0 := X0.later hb1
  have Y1 := X1.later hb1
  have hz1 : w.heap.size + 1 < w1.heap.size := Y1.lt
  have hB1 : Below w.heap.size w w1 := below_on hB0.size hB0 hb1
  simp only [World.size_alloc] at hbg hbb
  have hfr1 := hfr.weaken (base' := w.heap.size + 1 + 1) (by simp)
  have Z0 := Y0.put 0 (.slice (some ⟨g, 0, none⟩) fs.length c1)
  have Z1 := Y1.off (p := ⟨w.heap.size, 0, none⟩) (by dsimp only; omega) (.slice (some ⟨g, 0, none⟩) fs.length c1)
  have F6 := hfr1.put_low (b := w.heap.size) (by omega) 0 (.slice (some ⟨g, 0, none⟩) fs.length c1)
  have hB6 := hB1.setCell (p := ⟨w.heap.size, 0, none⟩) (Nat.le_refl _) (.slice (some ⟨g, 0, none⟩) fs.length c1)
  have y0 := Y0.cell 0
  have yf0 := Y0.free 0
  simp at y0
  have HF6 := Lib.hid F6
  have HB6 := Lib.hid hB6
  have HZ0 := Lib.hid Z0
  have HZ1 := Lib.hid Z1
  clear X0 X1 Y0 Y1 Z0 Z1 F6 hB6 hfr hfr1 hb1 hB0 hcell hfree hturn hBK hgl hgb hbg hbb bk
  go_wp2_with fail
  have hzW : w.heap.size + 1 < (w1.setCell ⟨w.heap.size, 0, none⟩ (.slice (some ⟨g, 0, none⟩) fs.length c1)).heap.size := HZ1.out.lt
  generalize hW : w1.setCell ⟨w.heap.size, 0, none⟩ (.slice (some ⟨g, 0, none⟩) fs.length c1) = W at *
  clear hW y0 yf0 hz1 hB1 w1
  have r0 := HZ0.out.cell 0
  have r1 := HZ1.out.cell 0
  have rf1 := HZ1.out.free 0
  simp at r0 r1
  obtain ⟨g', c1', bk, hv', hbg, hbb, hBK, hcell, hfree, hgb, hgl, hturn⟩ := HF6.out.at_ HF.out
  simp only [Value.slice.injEq, Option.some.injEq, Addr.mk.injEq, and_true, true_and] at hv'
  obtain ⟨rfl, rfl⟩ := hv'
  have x0 := hcell 0 (by omega)
  have x1 := hcell 1 (by omega)
  have x2 := hcell 2 (by omega)
  have x3 := hcell 3 (by omega)
  have xf3 := hfree (k * 4 + 3)
  simp only [cellsOf, List.getElem?_cons_zero, List.getElem?_cons_succ, Nat.add_zero] at x0 x1 x2 x3
  have HTURN := Lib.hid hturn
  have HBK := Lib.hid hBK
  clear hcell hfree hturn hBK
  go_quiet ((go_at_call 26; exact Calls.quiet_of_same (of_is _ _ _ hp hp2 hi HK.out)))
  rw [hbad] at x3
  clear hbad
  have hjl : j < f.b.length := (List.getElem?_eq_some_iff.1 hx).1
  have hfl : f.b.length ≤ 1000000 := HL.out f (List.mem_of_getElem? HF.out)
  have hq : (0 : Int) < (f.b.length : Int) := by omega
  have hq2 : (f.b.length : Int) ≤ 9223372036854775807 := by omega
  have HJ := Lib.hid hj
  clear hj
  have hj0 : (0 : Int) ≤ (j : Int) := by omega
  have hj1 : (j : Int) < (f.b.length : Int) := by omega
  have bx : W.cell? ⟨bk, j, none⟩ = some (.int .u8 (x.toNat : Int)) := by
    rw [HBK.out.cell j]
    simp [byteCells, hx]
  have bf := HBK.out.free j
  have hxor : bits .xor .u8 (x.toNat : Int) (y.toNat : Int) = ((x.toNat ^^^ y.toNat : Nat) : Int) := u8_xor_nat _ _ x.toNat_lt y.toNat_lt
  clear hx
  go_wp2_with fail
  go_region_with (first | (go_at_call 26; refine (of_any _ _ _ hq hq2 ha).mono ?_; rintro e w' ⟨rfl, rfl⟩; rw [HJ.out]))
  all_goals
    have hbg2 : ¬ bk = g := fun e => hgb e.symm
    have hgN : ¬ g = w.heap.size + 1 := by omega
    have hgN2 : ¬ g = w.heap.size := by omega
    have hbN : ¬ bk = w.heap.size + 1 := by omega
    have hbN2 : ¬ bk = w.heap.size := by omega
    go_wp2
    have FT := HTURN.out j (x ^^^ y)
    rw [UInt8.toNat_xor] at FT
    have FT2 := FT.put_low (b := w.heap.size + 1) (by omega) 0 (.slice (some ⟨g, 0, none⟩) fs.length c1)
    have BF := (((drewN_below HB6.out (nq + 1)).setCell (p := ⟨bk, j, none⟩) (by dsimp only; omega) (.int .u8 ((x.toNat ^^^ y.toNat : Nat) : Int))).setCell (p := ⟨g, k * 4 + 3, none⟩) (by dsimp only; omega) (.bool true)).setCell (p := ⟨w.heap.size + 1, 0, none⟩) (by dsimp only; omega) (.slice (some ⟨g, 0, none⟩) fs.length c1)
    exact bodyPost_ret (v := .tuple #[.agg #[.slice (some ⟨g, 0, none⟩) fs.length c1], .int .i64 0]) (by simp [results, Try.results20, go_sem, r1]) rfl ⟨_, rfl, FT2.weaken (by omega), BF⟩
end Go.Proofs.Ytiognapakadggaa
