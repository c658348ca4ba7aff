/- The reference's Same of two nets that are one; its Take, and Drop. -/
import Derived.Test.YtiognapakadggaaRefA
namespace Go.Proofs.Ytiognapakadggaa
open Go.RowKit

set_option maxRecDepth 100000 in
set_option maxHeartbeats 4000000 in
theorem same_eq (u v : Value) (fs : List Fl) (w : World) (h1 : NetAt w u fs) (h2 : NetAt w v fs) (hn : fs.length ≤ 1000) : Calls Try.prog 14 #[.agg #[u], .agg #[v]] w (SaysB w true) := by
  obtain ⟨A, c, rfl⟩ := h1.shape
  obtain ⟨B, d, rfl⟩ := h2.shape
  have HA := Lib.hid h1
  have HB := Lib.hid h2
  clear h1 h2
  go_enter Try.func14, Try.ntmps14
  go_wp2_with fail
  have x2 : Below w.heap.size w ((w.alloc (.cells #[.slice A fs.length c] 26)).alloc (.cells #[.slice B fs.length d] 26)) := ((Below.refl _ _).alloc (Nat.le_refl _) _).alloc (by simp) _
  have X0 := Lib.hid ((HasBlk.fresh w 26 #[.slice A fs.length c]).past (.cells #[.slice B fs.length d] 26))
  have X1 := Lib.hid (show HasBlk _ (w.heap.size + 1) 26 #[.slice B fs.length d] by have := HasBlk.fresh (w.alloc (.cells #[.slice A fs.length c] 26)) 26 #[.slice B fs.length d]; simpa using this)
  have HA2 := Lib.hid (HA.out.later x2)
  have HB2 := Lib.hid (HB.out.later x2)
  have HX2 := Lib.hid x2
  clear x2 HA HB
  generalize (w.alloc (.cells #[.slice A fs.length c] 26)).alloc (.cells #[.slice B fs.length d] 26) = W at X0 X1 HA2 HB2 HX2 ⊢
  go_loopg [5] fs.length (fun gk i wr => ∃ k : Nat, k + gk = fs.length ∧ i = .int .i64 k ∧ Below W.heap.size W wr)
  case atStart => exact ⟨0, by omega, rfl, Below.refl _ _⟩
  case round =>
    obtain ⟨k, hk, rfl, hW⟩ := hrel
    have HK := Lib.hid hk
    have hk' : k ≤ fs.length := by omega
    have hX0 := X0.out.later hW
    have hX1 := X1.out.later hW
    have n0 := hX0.cell 0
    have n1 := hX1.cell 0
    have nl0 := hX0.lt
    have nl1 := hX1.lt
    simp only [List.getElem?_toArray, List.getElem?_cons_zero] at n0 n1
    have HAW := Lib.hid (HA2.out.later hW)
    have HBW := Lib.hid (HB2.out.later hW)
    have HW := Lib.hid hW
    clear hk hX0 hX1 hW
    by_cases hlt : k < fs.length
    case neg =>
      obtain rfl : k = fs.length := by omega
      go_wp2_with fail
      go_ret
      exact ⟨rfl, below_on HX2.out.size HX2.out HW.out⟩
    case pos =>
      obtain ⟨f, hf⟩ : ∃ f, fs[k]? = some f := ⟨_, List.getElem?_eq_getElem hlt⟩
      obtain ⟨A', c', hv, hc⟩ := HAW.out
      simp only [Value.slice.injEq, true_and] at hv
      obtain ⟨rfl, rfl⟩ := hv
      obtain ⟨g, o, rfl, hfl⟩ := hc (by omega)
      obtain ⟨vb, c0, c1, c2, c3, hB⟩ := hfl k f hf
      obtain ⟨bA, bc, rfl⟩ := hB.shape
      obtain ⟨A', c', hv, hc⟩ := HBW.out
      simp only [Value.slice.injEq, true_and] at hv
      obtain ⟨rfl, rfl⟩ := hv
      obtain ⟨g', o', rfl, hfl'⟩ := hc (by omega)
      obtain ⟨vb', d0, d1, d2, d3, hB'⟩ := hfl' k f hf
      obtain ⟨bA', bc', rfl⟩ := hB'.shape
      have hk0 : (0 : Int) ≤ (k : Int) := by omega
      have hk1 : (k : Int) < (fs.length : Int) := by omega
      have HBB := Lib.hid hB
      have HBB' := Lib.hid hB'
      have hones : oneB f f = true := by simp [oneB]
      have HO := Lib.hid hones
      clear hfl hfl' hc hB hB' hf hones
      go_upto_region 6 with (fail)
      go_cut [6] (fun q wx => q = .bool true ∧ Below W.heap.size W wx)
      case first =>
        go_region_with (go_at_call 12; refine (one_any f f _ _ _ _ _ HBB.out.drew HBB'.out.drew).mono ?_; rintro e w4 ⟨rfl, hb4⟩; rw [HO.out])
        all_goals
          go_wp2_with fail
          go_meet
          case rel => exact ⟨rfl, below_on (W := wr.drew) HW.out.size HW.out.drew hb4⟩
      case rest =>
        obtain ⟨rfl, hG⟩ := hcut
        have HG := Lib.hid hG
        clear hG n0 n1 nl0 nl1 c0 c1 c2 c3 d0 d1 d2 d3
        go_wp2_with fail
        go_roundg (fs.length - k - 1)
        case measure => have := HK.out; omega
        case rel => exact ⟨k + 1, by have := HK.out; omega, by go_num, HG.out⟩
end Go.Proofs.Ytiognapakadggaa
