/- The reference's Drop. -/
import Derived.Test.YtiognapakadggaaRefC
namespace Go.Proofs.Ytiognapakadggaa
open Go.RowKit

set_option maxHeartbeats 1000000 in
theorem rdrop_none (v : Value) (i : Int) (w : World) (h : NetAt w v []) : Calls Try.prog 17 #[.agg #[v], .int .i64 i] w (NetE w [] 4) := by
  obtain ⟨A, c, rfl⟩ := h.shape
  have HN := Lib.hid h
  clear h
  go_enter Try.func17, Try.ntmps17
  go_wp2_with fail
  have hB0 : Below w.heap.size w ((w.alloc (.cells #[.slice A 0 c] 26)).alloc (.cells #[.slice none 0 0] 26)) := by
    repeat (first | exact Below.refl _ _ | refine Below.alloc ?_ (by first | omega | (simp; done) | (simp; omega)) _)
  have X1 := HasBlk.fresh (w.alloc (.cells #[.slice A 0 c] 26)) 26 #[.slice none 0 0]
  simp only [World.size_alloc] at X1
  refine (rtake_none _ i _ (HN.out.later hB0)).mono ?_
  rintro e w1 ⟨rfl, hb1⟩
  have Y1 := X1.later hb1
  have hB1 : Below w.heap.size w w1 := below_on hB0.size hB0 hb1
  have y1 := Y1.cell 0
  have yf1 := Y1.free 0
  have yl1 := Y1.lt
  have yl2 : w.heap.size + 1 < w1.heap.size + 1 := by omega
  have yf2 : ∀ o1 o2 : Obj, ((w1.alloc o1).alloc o2).frozen? ⟨w.heap.size + 1, 0, none⟩ = false := fun o1 o2 => ((Y1.past o1).past o2).free 0
  have yc2 : ∀ (u : Value) (o1 o2 : Obj), (((w1.setCell ⟨w.heap.size + 1, 0, none⟩ u).alloc o1).alloc o2).cell? ⟨w.heap.size + 1, 0, none⟩ = some u := fun u o1 o2 => by
    have := (((Y1.put 0 u).past o1).past o2).cell 0
    simpa using this
  simp at y1
  have HB1 := Lib.hid hB1
  clear X1 Y1 hb1 hB0 hB1
  go_wp2
  refine bodyPost_ret (v := .tuple #[.agg #[.slice none 0 0], .int .i64 4]) (by simp [results, Try.results17, go_sem, yc2]) rfl ⟨_, rfl, netNil _, ?_⟩
  have := HB1.out.size
  repeat (first | exact HB1.out | refine Below.setCell ?_ (by first | omega | (simp; done) | (simp; omega)) _ | refine Below.alloc ?_ (by first | omega | (simp; done) | (simp; omega)) _)

set_option maxHeartbeats 1000000 in
theorem rdrop_some (A : Option Addr) (c : Nat) (fs : List Fl) (i : Int) (k : Nat) (f : Fl) (w : World) (h : NetAt w (.slice A fs.length c) fs) (hlc : fs.length ≤ c) (hf : fs[k]? = some f) (hk : ofI i fs.length = k) (hi : i ≤ 9223372036854775807) (hn : fs.length ≤ 400) :
    Calls Try.prog 17 #[.agg #[.slice A fs.length c], .int .i64 i] w (NetE w (fs.eraseIdx k) 0) := by
  have HN := Lib.hid h
  have HF := Lib.hid hf
  have HK := Lib.hid hk
  generalize hgs : fs.eraseIdx k = gs
  have HGS := Lib.hid hgs
  clear h hf hk hgs
  go_enter Try.func17, Try.ntmps17
  go_wp2_with fail
  have hB0 : Below w.heap.size w ((w.alloc (.cells #[.slice A fs.length c] 26)).alloc (.cells #[.slice none 0 0] 26)) := by
    repeat (first | exact Below.refl _ _ | refine Below.alloc ?_ (by first | omega | (simp; done) | (simp; omega)) _)
  have X1 := HasBlk.fresh (w.alloc (.cells #[.slice A fs.length c] 26)) 26 #[.slice none 0 0]
  simp only [World.size_alloc] at X1
  refine (rtake_some _ _ fs i k f _ (HN.out.later hB0) hlc HF.out HK.out hi hn).mono ?_
  rintro e w1 ⟨v2, B2, d2, rfl, hf2, hB2, hb1⟩
  rw [HGS.out] at hf2
  obtain ⟨A2, c2, rfl⟩ := hf2.shape
  have Y1 := X1.later hb1
  have hB1 : Below w.heap.size w w1 := below_on hB0.size hB0 hb1
  have y1 := Y1.cell 0
  have yf1 := Y1.free 0
  have yl1 := Y1.lt
  have yl2 : w.heap.size + 1 < w1.heap.size + 1 := by omega
  have yf2 : ∀ o1 o2 : Obj, ((w1.alloc o1).alloc o2).frozen? ⟨w.heap.size + 1, 0, none⟩ = false := fun o1 o2 => ((Y1.past o1).past o2).free 0
  have yc2 : ∀ (u : Value) (o1 o2 : Obj), (((w1.setCell ⟨w.heap.size + 1, 0, none⟩ u).alloc o1).alloc o2).cell? ⟨w.heap.size + 1, 0, none⟩ = some u := fun u o1 o2 => by
    have := (((Y1.put 0 u).past o1).past o2).cell 0
    simpa using this
  simp at y1
  have x2 : Below w1.heap.size w1 ((w1.alloc (.cells #[.slice A2 gs.length c2] 26)).alloc (.cells #[.int .i64 f.fr, .int .i64 f.to, .slice B2 f.b.length d2, .bool f.bad] 31)) := ((Below.refl _ _).alloc (Nat.le_refl _) _).alloc (by simp) _
  have F3 := Lib.hid ((hf2.later x2).box (Y1.later x2) (.slice A2 gs.length c2))
  have F4 := Lib.hid (((hf2.box Y1 (.slice A2 gs.length c2)).later (((Below.refl _ _).alloc (Nat.le_refl _) (.cells #[.slice A2 gs.length c2] 26)).alloc (by simp) (.cells #[.int .i64 f.fr, .int .i64 f.to, .slice B2 f.b.length d2, .bool f.bad] 31))))
  have HB1 := Lib.hid hB1
  clear X1 Y1 hb1 hB0 hB1 hf2 hB2 x2
  go_wp2
  refine bodyPost_ret (v := .tuple #[.agg #[.slice A2 gs.length c2], .int .i64 0]) (by simp [results, Try.results17, go_sem, yc2]) rfl ⟨_, rfl, by first | exact F4.out | exact F3.out, ?_⟩
  have := HB1.out.size
  repeat (first | exact HB1.out | refine Below.setCell ?_ (by first | omega | (simp; done) | (simp; omega)) _ | refine Below.alloc ?_ (by first | omega | (simp; done) | (simp; omega)) _)
end Go.Proofs.Ytiognapakadggaa
