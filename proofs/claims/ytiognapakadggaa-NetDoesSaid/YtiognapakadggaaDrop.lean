/- net.Drop: the net without the piece that is meant. turned: do bytes of one length differ in one place? -/
import Derived.Test.YtiognapakadggaaRow
import Derived.Test.YtiognapakadggaaRef1
namespace Go.Proofs.Ytiognapakadggaa
open Go.RowKit

set_option maxHeartbeats 1000000 in
theorem drop_none (v : Value) (i : Int) (w : World) (h : NetAt w v []) : Calls Try.prog 16 #[.agg #[v], .int .i64 i] w (NetE w [] 4) := by
  obtain ⟨A, c, rfl⟩ := h.shape
  have HN := Lib.hid h
  clear h
  go_enter Try.func16, Try.ntmps16
  go_wp2_with fail
  have hB0 : Below w.heap.size w ((w.alloc (.cells #[.slice A 0 c] 26)).alloc (.cells #[.slice none 0 0] 26)) := by
    repeat (first | exact Below.refl _ _ | refine Below.alloc ?_ (by first | omega | (simp; done) | (simp; omega)) _)
  have X0 := (HasBlk.fresh w 26 #[.slice A 0 c]).past (.cells #[.slice none 0 0] 26)
  have X1 := HasBlk.fresh (w.alloc (.cells #[.slice A 0 c] 26)) 26 #[.slice none 0 0]
  simp only [World.size_alloc] at X1
  refine (take_none _ i _ (HN.out.later hB0)).mono ?_
  rintro e w1 ⟨rfl, hb1⟩
  have Y0 := X0.later hb1
  have Y1 := X1.later hb1
  have hB1 : Below w.heap.size w w1 := below_on hB0.size hB0 hb1
  have y0 := Y0.cell 0
  have y1 := Y1.cell 0
  have yf0 := Y0.free 0
  have yf1 := Y1.free 0
  have yl0 := Y0.lt
  have yl1 := Y1.lt
  simp at y0 y1
  have HB1 := Lib.hid hB1
  clear X0 X1 Y0 Y1 hb1 hB0 hB1
  go_wp2
  refine bodyPost_ret (v := .tuple #[.agg #[.slice none 0 0], .int .i64 4]) (by simp [results, Try.results16, go_sem, y1, yl1]) rfl ⟨_, rfl, netNil _, ?_⟩
  have := HB1.out.size
  repeat (first | exact HB1.out | refine Below.setCell ?_ (by first | omega | (simp; done) | (simp; omega)) _ | refine Below.alloc ?_ (by first | omega | (simp; done) | (simp; omega)) _)

set_option maxHeartbeats 1000000 in
theorem drop_some (v : Value) (fs : List Fl) (i : Int) (k : Nat) (f : Fl) (w : World) (h : NetAt w v fs) (hf : fs[k]? = some f) (hk : ofI i fs.length = k) (hi : i ≤ 9223372036854775807) (hn : fs.length ≤ 1000) (hl : ∀ f ∈ fs, f.b.length ≤ 1000000) :
    Calls Try.prog 16 #[.agg #[v], .int .i64 i] w (NetE w (fs.eraseIdx k) 0) := by
  obtain ⟨A, c, rfl⟩ := h.shape
  have HN := Lib.hid h
  have HL := Lib.hid hl
  have HF := Lib.hid hf
  have HK := Lib.hid hk
  generalize hgs : fs.eraseIdx k = gs
  have HGS := Lib.hid hgs
  clear h hl hf hk hgs
  go_enter Try.func16, Try.ntmps16
  go_wp2_with fail
  have hB0 : Below w.heap.size w ((w.alloc (.cells #[.slice A fs.length c] 26)).alloc (.cells #[.slice none 0 0] 26)) := by
    repeat (first | exact Below.refl _ _ | refine Below.alloc ?_ (by first | omega | (simp; done) | (simp; omega)) _)
  have X0 := (HasBlk.fresh w 26 #[.slice A fs.length c]).past (.cells #[.slice none 0 0] 26)
  have X1 := HasBlk.fresh (w.alloc (.cells #[.slice A fs.length c] 26)) 26 #[.slice none 0 0]
  simp only [World.size_alloc] at X1
  refine (take_some _ fs i k f _ (HN.out.later hB0) HF.out HK.out hi hn HL.out).mono ?_
  rintro e w1 ⟨v2, B2, d2, rfl, hf2, hB2, hb1⟩
  obtain ⟨A2, c2, rfl⟩ := hf2.shape
  rw [HGS.out] at hf2 ⊢
  have Y0 := X0.later hb1
  have Y1 := X1.later hb1
  have hB1 : Below w.heap.size w w1 := below_on hB0.size hB0 hb1
  have y0 := Y0.cell 0
  have y1 := Y1.cell 0
  have yf0 := Y0.free 0
  have yf1 := Y1.free 0
  have yl0 := Y0.lt
  have yl1 := Y1.lt
  simp at y0 y1
  have F1 := hf2.weaken (base' := w.heap.size + 1 + 1) (by simp)
  have F2 := (F1.put_low (b := w.heap.size) (by omega) 0 (.slice A2 gs.length c2)).put_low (b := w.heap.size + 1) (by omega) 0 (.slice A2 gs.length c2)
  have F3 := Lib.hid (F2.past (.cells #[.int .i64 f.fr, .int .i64 f.to, .slice B2 f.b.length d2, .bool f.bad] 31)).netAt
  have HB1 := Lib.hid hB1
  clear X0 X1 Y0 Y1 hb1 hB0 hB1 F1 F2 hf2 hB2
  go_wp2
  refine bodyPost_ret (v := .tuple #[.agg #[.slice A2 gs.length c2], .int .i64 0]) (by simp [results, Try.results16, go_sem, y1, yl1]) rfl ⟨_, rfl, F3.out, ?_⟩
  have := HB1.out.size
  repeat (first | exact HB1.out | refine Below.setCell ?_ (by first | omega | (simp; done) | (simp; omega)) _ | refine Below.alloc ?_ (by first | omega | (simp; done) | (simp; omega)) _)

/-- In how many places do the first k of two rows of bytes differ? -/
def diffs (a b : List UInt8) (k : Nat) : Nat := ((List.range k).filter fun j => a[j]? != b[j]?).length
def turnB (a b : List UInt8) : Bool := (a.length == b.length) && (diffs a b a.length == 1)
theorem diffs_zero (a b : List UInt8) : diffs a b 0 = 0 := rfl
theorem diffs_next (a b : List UInt8) (k : Nat) : diffs a b (k + 1) = diffs a b k + (if a[k]? != b[k]? then 1 else 0) := by
  simp only [diffs, List.range_succ, List.filter_append, List.length_append, List.filter_cons, List.filter_nil]
  split <;> simp
theorem diffs_le (a b : List UInt8) (k : Nat) : diffs a b k ≤ k := by
  have := List.length_filter_le (fun j => a[j]? != b[j]?) (List.range k)
  simpa [diffs] using this

theorem turned_len (A B : Option Addr) (n m c d : Nat) (w : World) (h : n ≠ m) : Calls Try.prog 23 #[.slice A n c, .slice B m d] w (SaysB w false) := by
  have h' : ((n : Int) == (m : Int)) = false := by rw [beq_eq_false_iff_ne]; omega
  have h2 : ¬ n = m := h
  go_enter Try.func23, Try.ntmps23
  go_wp2
  go_ret
  exact ⟨rfl, Below.refl _ _⟩

set_option maxHeartbeats 2000000 in
theorem turned_same (va vb : Value) (a b : List UInt8) (w : World) (ha : BytesAt w va a) (hb : BytesAt w vb b) (hl : a.length = b.length) (hm : a.length ≤ 1000000) : Calls Try.prog 23 #[va, vb] w (SaysB w (turnB a b)) := by
  obtain ⟨A, c, rfl⟩ := ha.shape
  obtain ⟨B, d, rfl⟩ := hb.shape
  rw [← hl]
  have HA := Lib.hid ha
  have HB := Lib.hid hb
  have HT : Hid (turnB a b = (diffs a b a.length == 1)) := Lib.hid (by simp [turnB, hl])
  have HLL := Lib.hid hl
  clear ha hb hl
  go_enter Try.func23, Try.ntmps23
  go_wp2_with fail
  go_loopg [5, 6] a.length (fun gk n i wr => ∃ k q : Nat, k + gk = a.length ∧ i = .int .i64 k ∧ n = .int .i64 (diffs a b k : Nat) ∧ wr = w.drewN q)
  case atStart => exact ⟨0, 0, by omega, rfl, rfl, rfl⟩
  case round =>
    obtain ⟨k, q, hk, rfl, rfl, rfl⟩ := hrel
    have hk' : k ≤ a.length := by omega
    have HK := Lib.hid hk
    clear hk
    by_cases hlt : k < a.length
    case neg =>
      obtain rfl : k = a.length := by omega
      go_wp2_with fail
      go_ret
      refine ⟨?_, drewN_below (Below.refl _ _) q⟩
      rw [HT.out]
      show Ending.returned (Value.bool (((diffs a b a.length : Nat) : Int) == 1)) = Ending.returned (Value.bool (diffs a b a.length == 1))
      congr 2
      generalize diffs a b a.length = n
      rw [Bool.eq_iff_iff]
      simp only [beq_iff_eq]
      omega
    case pos =>
      obtain ⟨x, hx⟩ : ∃ x, a[k]? = some x := ⟨_, List.getElem?_eq_getElem hlt⟩
      obtain ⟨y, hy⟩ : ∃ y, b[k]? = some y := ⟨_, List.getElem?_eq_getElem (by rw [← HLL.out]; exact hlt)⟩
      have hnext := diffs_next a b k
      rw [hx, hy] at hnext
      have hdl := diffs_le a b k
      obtain ⟨A', c', hv, hc⟩ := HA.out
      simp only [Value.slice.injEq, true_and] at hv
      obtain ⟨rfl, rfl⟩ := hv
      obtain ⟨g, o, rfl, hca⟩ := hc (by omega)
      obtain ⟨B', d', hv, hc⟩ := HB.out
      simp only [Value.slice.injEq, true_and] at hv
      obtain ⟨rfl, rfl⟩ := hv
      obtain ⟨g', o', rfl, hcb⟩ := hc (by rw [← HLL.out]; omega)
      have ca := hca k x hx
      have cb := hcb k y hy
      have hk0 : (0 : Int) ≤ (k : Int) := by omega
      have hk1 : (k : Int) < (a.length : Int) := by omega
      have HN := Lib.hid hnext
      clear hca hcb hc hx hy hnext HA HB
      by_cases hxy : x = y
      · subst hxy
        go_wp2_with fail
        go_quiet (fail)
        go_wp2_with fail
        go_roundg (a.length - k - 1)
        case measure => have := HK.out; omega
        case rel => exact ⟨k + 1, q + nq, by have := HK.out; omega, by go_num, by rw [HN.out]; simp, rfl⟩
      · have hne : ((x.toNat : Int) == (y.toNat : Int)) = false := by
          rw [beq_eq_false_iff_ne]
          intro h
          exact hxy (UInt8.toNat_inj.1 (by omega))
        have hne2 : (x.toNat == y.toNat) = false := by
          rw [beq_eq_false_iff_ne]
          intro h
          exact hxy (UInt8.toNat_inj.1 h)
        have hne3 : ¬ x.toNat = y.toNat := fun h => hxy (UInt8.toNat_inj.1 h)
        have HN2 : Hid (diffs a b (k + 1) = diffs a b k + 1) := Lib.hid (by rw [HN.out]; simp [hxy])
        clear hxy
        go_wp2_with fail
        go_quiet (fail)
        go_wp2_with fail
        go_roundg (a.length - k - 1)
        case measure => have := HK.out; omega
        case rel => exact ⟨k + 1, q + nq, by have := HK.out; omega, by go_num, by rw [HN2.out]; go_num, rfl⟩

theorem turned_any (va vb : Value) (a b : List UInt8) (w : World) (ha : BytesAt w va a) (hb : BytesAt w vb b) (hm : a.length ≤ 1000000) : Calls Try.prog 23 #[va, vb] w (SaysB w (turnB a b)) := by
  by_cases hl : a.length = b.length
  · exact turned_same va vb a b w ha hb hl hm
  · obtain ⟨A, c, rfl⟩ := ha.shape
    obtain ⟨B, d, rfl⟩ := hb.shape
    have : turnB a b = false := by simp [turnB, hl]
    rw [this]
    exact turned_len A B _ _ c d w hl
end Go.Proofs.Ytiognapakadggaa
