/- net.Take: of an empty net nothing; else the piece that is meant, and the net without it, in new memory alone. -/
import Derived.Test.YtiognapakadggaaAll
namespace Go.Proofs.Ytiognapakadggaa
open Go.RowKit

def TakeN (w : World) (e : Ending) (w' : World) : Prop :=
  e = .returned (.tuple #[.agg #[.slice none 0 0], .agg #[.int .i64 0, .int .i64 0, .slice none 0 0, .bool false], .int .i64 4]) ∧ Below w.heap.size w w'
def TakeS (w : World) (fs : List Fl) (k : Nat) (f : Fl) (e : Ending) (w' : World) : Prop :=
  ∃ v A c, e = .returned (.tuple #[.agg #[v], .agg #[.int .i64 f.fr, .int .i64 f.to, .slice A f.b.length c, .bool f.bad], .int .i64 0]) ∧ Fresh w' w.heap.size v (fs.eraseIdx k) ∧ BytesAt w' (.slice A f.b.length c) f.b ∧ Below w.heap.size w w'

set_option maxHeartbeats 1000000 in
theorem take_none (v : Value) (i : Int) (w : World) (h : NetAt w v []) : Calls Try.prog 9 #[.agg #[v], .int .i64 i] w (TakeN w) := by
  obtain ⟨A, c, rfl, _⟩ := h
  go_enter Try.func9, Try.ntmps9
  go_wp2
  refine bodyPost_ret (v := .tuple #[.agg #[.slice none 0 0], .agg #[.int .i64 0, .int .i64 0, .slice none 0 0, .bool false], .int .i64 4]) (by simp [results, Try.results9, go_sem]) rfl ⟨rfl, ?_⟩
  repeat (first | exact Below.refl _ _ | refine Below.setCell ?_ (by simp; try omega) _ | refine Below.alloc ?_ (by first | omega | (simp; done) | (simp; omega)) _)

set_option maxRecDepth 100000 in
set_option maxHeartbeats 4000000 in
theorem take_some (v : Value) (fs : List Fl) (i : Int) (k : Nat) (f : Fl) (w : World) (h : NetAt w v fs) (hf : fs[k]? = some f) (hk : ofI i fs.length = k) (hi : i ≤ 9223372036854775807) (hn : fs.length ≤ 1000) (hl : ∀ f ∈ fs, f.b.length ≤ 1000000) :
    Calls Try.prog 9 #[.agg #[v], .int .i64 i] w (TakeS w fs k f) := by
  have hkl : k < fs.length := (List.getElem?_eq_some_iff.1 hf).1
  obtain ⟨A, c, rfl, hc⟩ := id h
  have HN := Lib.hid h
  obtain ⟨g, o, rfl, hfl⟩ := hc (by omega)
  obtain ⟨vb, c0, c1, c2, c3, hB⟩ := hfl k f hf
  obtain ⟨bA, bc, rfl⟩ : ∃ bA bc, vb = .slice bA f.b.length bc := by obtain ⟨bA, bc, h, _⟩ := hB; exact ⟨bA, bc, h⟩
  have hgw : g < w.heap.size := World.block_lt_of_cell? _ _ c0
  have hgw1 : g < w.heap.size + 1 := by omega
  have hgw2 : g < w.heap.size + 1 + 1 := by omega
  have hgw3 : g < w.heap.size + 1 + 1 + 1 := by omega
  have hgw4 : g < w.heap.size + 1 + 1 + 1 + 1 := by omega
  have hfm := hl f (List.mem_of_getElem? hf)
  have HB := Lib.hid hB
  have HL := Lib.hid hl
  have HK := Lib.hid hk
  have hp : (0 : Int) < (fs.length : Int) := by omega
  have he : ((fs.length : Int) == 0) = false := by rw [beq_eq_false_iff_ne]; omega
  have hk0 : (0 : Int) ≤ (k : Int) := by omega
  have hk1 : (k : Int) < (fs.length : Int) := by omega
  have hKB := keptTo_but fs k fs.length (Nat.le_refl _)
  rw [List.take_length] at hKB
  have HKB := Lib.hid hKB
  clear hB hl hk hc hfl h hf hKB
  go_enter Try.func9, Try.ntmps9
  go_wp2_with fail
  refine (of_any _ _ _ hp (by omega) hi).mono ?_
  rintro e w' ⟨rfl, rfl⟩
  rw [HK.out]
  go_wp2_with fail
  /- from here -/
  have hB0 : Below w.heap.size w (((((w.alloc (.cells #[.slice (some ⟨g, o, none⟩) fs.length c] 26)).alloc (.cells #[.slice none 0 0] 26)).alloc (.cells #[.int .i64 0, .int .i64 0, .slice none 0 0, .bool false] 31)).alloc (.cells #[.int .i64 k] 3)).alloc (.cells #[.int .i64 f.fr, .int .i64 f.to, .slice bA f.b.length bc, .bool f.bad] 31)) := by
    repeat (first | exact Below.refl _ _ | refine Below.alloc ?_ (by first | omega | (simp; done) | (simp; omega)) _)
  have X0 := ((((HasBlk.fresh w 26 #[.slice (some ⟨g, o, none⟩) fs.length c]).past (.cells #[.slice none 0 0] 26)).past (.cells #[.int .i64 0, .int .i64 0, .slice none 0 0, .bool false] 31)).past (.cells #[.int .i64 k] 3)).past (.cells #[.int .i64 f.fr, .int .i64 f.to, .slice bA f.b.length bc, .bool f.bad] 31)
  have X1 := (((HasBlk.fresh (w.alloc (.cells #[.slice (some ⟨g, o, none⟩) fs.length c] 26)) 26 #[.slice none 0 0]).past (.cells #[.int .i64 0, .int .i64 0, .slice none 0 0, .bool false] 31)).past (.cells #[.int .i64 k] 3)).past (.cells #[.int .i64 f.fr, .int .i64 f.to, .slice bA f.b.length bc, .bool f.bad] 31)
  simp only [World.size_alloc] at X1
  have X2 := ((HasBlk.fresh ((w.alloc (.cells #[.slice (some ⟨g, o, none⟩) fs.length c] 26)).alloc (.cells #[.slice none 0 0] 26)) 31 #[.int .i64 0, .int .i64 0, .slice none 0 0, .bool false]).past (.cells #[.int .i64 k] 3)).past (.cells #[.int .i64 f.fr, .int .i64 f.to, .slice bA f.b.length bc, .bool f.bad] 31)
  simp only [World.size_alloc] at X2
  have X3 := (HasBlk.fresh (((w.alloc (.cells #[.slice (some ⟨g, o, none⟩) fs.length c] 26)).alloc (.cells #[.slice none 0 0] 26)).alloc (.cells #[.int .i64 0, .int .i64 0, .slice none 0 0, .bool false] 31)) 3 #[.int .i64 k]).past (.cells #[.int .i64 f.fr, .int .i64 f.to, .slice bA f.b.length bc, .bool f.bad] 31)
  simp only [World.size_alloc] at X3
  have X4 := HasBlk.fresh ((((w.alloc (.cells #[.slice (some ⟨g, o, none⟩) fs.length c] 26)).alloc (.cells #[.slice none 0 0] 26)).alloc (.cells #[.int .i64 0, .int .i64 0, .slice none 0 0, .bool false] 31)).alloc (.cells #[.int .i64 k] 3)) 31 #[.int .i64 f.fr, .int .i64 f.to, .slice bA f.b.length bc, .bool f.bad]
  simp only [World.size_alloc] at X4
  refine (bytes_any _ f.b _ (HB.out.later hB0) hfm).mono ?_
  rintro e w1 ⟨g2, rfl, hg2, hblk, hb1⟩
  simp only [World.size_alloc] at hg2
  have Y0 := X0.later hb1
  have Y1 := X1.later hb1
  have Y2 := X2.later hb1
  have Y3 := X3.later hb1
  have Y4 := X4.later hb1
  have hB1 : Below w.heap.size w w1 := below_on hB0.size hB0 hb1
  have b0 := Y4.cell 0
  have bf0 := Y4.free 0
  have b1 := Y4.cell 1
  have bf1 := Y4.free 1
  have b2 := Y4.cell 2
  have bf2 := Y4.free 2
  have b3 := Y4.cell 3
  have bf3 := Y4.free 3
  simp only [List.getElem?_toArray, List.getElem?_cons_zero, List.getElem?_cons_succ] at b0 b1 b2 b3
  clear X0 X1 X2 X3 X4
  have hne4 : w.heap.size + 1 + 1 + 1 + 1 ≠ g2 := by omega
  have Z4 := Y4.put 2 (.slice (some ⟨g2, 0, none⟩) f.b.length f.b.length)
  have Z0 := Y0.off (p := ⟨w.heap.size + 1 + 1 + 1 + 1, 2, none⟩) (by dsimp only; omega) (.slice (some ⟨g2, 0, none⟩) f.b.length f.b.length)
  have Z1 := Y1.off (p := ⟨w.heap.size + 1 + 1 + 1 + 1, 2, none⟩) (by dsimp only; omega) (.slice (some ⟨g2, 0, none⟩) f.b.length f.b.length)
  have Z2 := Y2.off (p := ⟨w.heap.size + 1 + 1 + 1 + 1, 2, none⟩) (by dsimp only; omega) (.slice (some ⟨g2, 0, none⟩) f.b.length f.b.length)
  have Z3 := Y3.off (p := ⟨w.heap.size + 1 + 1 + 1 + 1, 2, none⟩) (by dsimp only; omega) (.slice (some ⟨g2, 0, none⟩) f.b.length f.b.length)
  have ZG := hblk.off (p := ⟨w.heap.size + 1 + 1 + 1 + 1, 2, none⟩) (by dsimp only; omega) (.slice (some ⟨g2, 0, none⟩) f.b.length f.b.length)
  have hB6 : Below w.heap.size w (w1.setCell ⟨w.heap.size + 1 + 1 + 1 + 1, 2, none⟩ (.slice (some ⟨g2, 0, none⟩) f.b.length f.b.length)) := hB1.setCell (by dsimp only; omega) _
  have z0 := Z0.cell 0
  have z3 := Z3.cell 0
  have y0 := Z4.cell 0
  have y1 := Z4.cell 1
  have y2 := Z4.cell 2
  have y3 := Z4.cell 3
  simp at z0 z3 y0 y1 y2 y3
  have HZ := Lib.hid (And.intro Z0 (And.intro Z1 (And.intro Z2 (And.intro Z3 (And.intro Z4 ZG)))))
  have HB6 := Lib.hid hB6
  clear Z0 Z1 Z2 Z3 Z4 ZG Y0 Y1 Y2 Y3 Y4 hblk hb1 hB1 hB0 hB6
  go_wp2_with fail
  go_region_held3 (fun w' => w'.cell? ⟨w.heap.size, 0, none⟩ = some (.slice (some ⟨g, o, none⟩) fs.length c) ∧ w'.cell? ⟨w.heap.size + 1 + 1 + 1 + 1, 0, none⟩ = some (.int .i64 f.fr) ∧ w'.cell? ⟨w.heap.size + 1 + 1 + 1 + 1, 1, none⟩ = some (.int .i64 f.to) ∧ w'.cell? ⟨w.heap.size + 1 + 1 + 1 + 1, 2, none⟩ = some (.slice (some ⟨g2, 0, none⟩) f.b.length f.b.length) ∧ w'.cell? ⟨w.heap.size + 1 + 1 + 1 + 1, 3, none⟩ = some (.bool f.bad))
    ((refine ⟨?_, ?_, ?_, ?_, ?_⟩ <;> repeat (first | (with_reducible assumption) | (with_reducible refine keep_drew ?_) | (with_reducible refine keep_alloc ?_) | (with_reducible refine keep_set (by dsimp only; omega) ?_) | (with_reducible refine cell_later hb2 ?_))))
    (first | (go_at_call 27; refine (those_but (w.heap.size + 1 + 1 + 1) k _ fs _ (NetAt.later HN.out HB6.out.drew) hn HL.out (keep_drew z3)).mono ?_; rintro e w2 ⟨v2, rfl, hfr, hb2⟩; rw [HKB.out] at hfr; obtain ⟨A2, c2, rfl⟩ := hfr.shape; have R1 := HasBlk.later (HasBlk.drawn HZ.out.2.1) hb2; have R2 := HasBlk.later (HasBlk.drawn HZ.out.2.2.1) hb2; have r10 := R1.cell 0; have rf10 := R1.free 0; have r20 := R2.cell 0; have r21 := R2.cell 1; have r22 := R2.cell 2; have r23 := R2.cell 3; have rf20 := R2.free 0; have rf21 := R2.free 1; have rf22 := R2.free 2; have rf23 := R2.free 3; simp only [List.getElem?_toArray, List.getElem?_cons_zero, List.getElem?_cons_succ] at r10 r20 r21 r22 r23))
  go_wp2
  have hz6 : w.heap.size + 1 + 1 + 1 + 1 < (w1.setCell ⟨w.heap.size + 1 + 1 + 1 + 1, 2, none⟩ (.slice (some ⟨g2, 0, none⟩) f.b.length f.b.length)).drew.heap.size := HZ.out.2.2.2.2.1.lt
  have FR := ((((hfr.put_low (b := w.heap.size + 1) (by omega) 0 (.slice A2 (fs.eraseIdx k).length c2)).put_low (b := w.heap.size + 1 + 1) (by omega) 0 (.int .i64 f.fr)).put_low (b := w.heap.size + 1 + 1) (by omega) 1 (.int .i64 f.to)).put_low (b := w.heap.size + 1 + 1) (by omega) 2 (.slice (some ⟨g2, 0, none⟩) f.b.length f.b.length)).put_low (b := w.heap.size + 1 + 1) (by omega) 3 (.bool f.bad)
  have G2 := HasBlk.later (HasBlk.drawn HZ.out.2.2.2.2.2) hb2
  have n1 : g2 ≠ w.heap.size + 1 := by omega
  have n2 : g2 ≠ w.heap.size + 1 + 1 := by omega
  have GF := ((((G2.off (p := ⟨w.heap.size + 1, 0, none⟩) n1 (.slice A2 (fs.eraseIdx k).length c2)).off (p := ⟨w.heap.size + 1 + 1, 0, none⟩) n2 (.int .i64 f.fr)).off (p := ⟨w.heap.size + 1 + 1, 1, none⟩) n2 (.int .i64 f.to)).off (p := ⟨w.heap.size + 1 + 1, 2, none⟩) n2 (.slice (some ⟨g2, 0, none⟩) f.b.length f.b.length)).off (p := ⟨w.heap.size + 1 + 1, 3, none⟩) n2 (.bool f.bad)
  have l1 : w.heap.size ≤ w.heap.size + 1 := by omega
  have l2 : w.heap.size ≤ w.heap.size + 1 + 1 := by omega
  have BF := ((((below_on (by omega) HB6.out.drew hb2).setCell (p := ⟨w.heap.size + 1, 0, none⟩) l1 (.slice A2 (fs.eraseIdx k).length c2)).setCell (p := ⟨w.heap.size + 1 + 1, 0, none⟩) l2 (.int .i64 f.fr)).setCell (p := ⟨w.heap.size + 1 + 1, 1, none⟩) l2 (.int .i64 f.to)).setCell (p := ⟨w.heap.size + 1 + 1, 2, none⟩) l2 (.slice (some ⟨g2, 0, none⟩) f.b.length f.b.length)
  refine bodyPost_ret (v := .tuple #[.agg #[.slice A2 (fs.eraseIdx k).length c2], .agg #[.int .i64 f.fr, .int .i64 f.to, (.slice (some ⟨g2, 0, none⟩) f.b.length f.b.length), .bool f.bad], .int .i64 0]) (by simp [results, Try.results9, go_sem, r10, r20, r21, r22, r23]) rfl ⟨_, _, _, rfl, FR.weaken (by omega), BytesAt.of_blk GF, BF.setCell (p := ⟨w.heap.size + 1 + 1, 3, none⟩) l2 _⟩
end Go.Proofs.Ytiognapakadggaa
