/- Light: at most 60 pieces of at most 2000 bytes. One: two pieces held against each other. -/
import Derived.Test.YtiognapakadggaaConv
import Derived.Deep.LoopGhost
namespace Go.Proofs.Ytiognapakadggaa
open Go.RowKit

def lightB (fs : List Fl) : Bool := decide (fs.length ≤ 60) && fs.all fun f => decide (f.b.length ≤ 2000)

/-- A call that answers true or false, and writes into new memory alone. -/
def SaysB (w : World) (b : Bool) (e : Ending) (w' : World) : Prop := e = .returned (.bool b) ∧ Below w.heap.size w w'

theorem light_many (v : Value) (fs : List Fl) (w : World) (h : NetAt w v fs) (hm : 60 < fs.length) (hn : fs.length ≤ 9223372036854775807) : Calls Try.prog 10 #[.agg #[v]] w (SaysB w (lightB fs)) := by
  obtain ⟨A, c, rfl, hc⟩ := h
  have H : Hid (lightB fs = false) := Lib.hid (by simp [lightB]; omega)
  have hm' : (60 : Int) < (fs.length : Int) := by omega
  clear hc
  go_enter Try.func10, Try.ntmps10
  go_wp2
  refine bodyPost_ret (v := .bool false) (by simp [results, Try.results10, go_sem]) rfl ⟨by rw [H.out], ?_⟩
  exact (Below.refl _ _).alloc (Nat.le_refl _) _

set_option maxRecDepth 100000 in
set_option maxHeartbeats 2000000 in
theorem light_few (v : Value) (fs : List Fl) (w : World) (h : NetAt w v fs) (hm : fs.length ≤ 60) : Calls Try.prog 10 #[.agg #[v]] w (SaysB w (lightB fs)) := by
  obtain ⟨A, c, rfl, hc⟩ := h
  have HC := Lib.hid hc
  have hm' : (fs.length : Int) ≤ 60 := by omega
  have hm2 : ¬ (60 : Int) < (fs.length : Int) := by omega
  clear hc
  go_enter Try.func10, Try.ntmps10
  go_wp2_with fail
  go_loopg [3] fs.length (fun gk i wr => ∃ k : Nat, k + gk = fs.length ∧ i = .int .i64 k ∧ wr = w.alloc (.cells #[.slice A fs.length c] 26) ∧ (∀ (j : Nat) (f : Fl), j < k → fs[j]? = some f → f.b.length ≤ 2000))
  case atStart =>
    exact ⟨0, by omega, rfl, rfl, by omega⟩
  case round =>
    obtain ⟨k, hk, rfl, rfl, hj⟩ := hrel
    have HK := Lib.hid hk
    have HJ := Lib.hid hj
    have hk' : k ≤ fs.length := by omega
    clear hk hj
    by_cases hlt : k < fs.length
    case neg =>
      obtain rfl : k = fs.length := by omega
      have H : Hid (lightB fs = true) := Lib.hid (by
        simp only [lightB, Bool.and_eq_true, decide_eq_true_eq, List.all_eq_true]
        refine ⟨by omega, fun f hf => ?_⟩
        obtain ⟨j, hj⟩ := List.getElem?_of_mem hf
        exact HJ.out j f (List.getElem?_eq_some_iff.1 hj).1 hj)
      go_wp2
      refine bodyPost_ret (v := .bool true) (by simp [results, Try.results10, go_sem]) rfl ⟨by rw [H.out], ?_⟩
      exact (Below.refl _ _).alloc (Nat.le_refl _) _
    case pos =>
      obtain ⟨f, hf⟩ : ∃ f, fs[k]? = some f := ⟨_, List.getElem?_eq_getElem hlt⟩
      obtain ⟨g, o, rfl, hfl⟩ := HC.out (by omega)
      obtain ⟨vb, c0, c1, c2, c3, hB⟩ := hfl k f hf
      obtain ⟨bA, bc, rfl⟩ : ∃ bA bc, vb = .slice bA f.b.length bc := by obtain ⟨bA, bc, h, _⟩ := hB; exact ⟨bA, bc, h⟩
      have hgw : g < w.heap.size := World.block_lt_of_cell? _ _ c0
      have HF := Lib.hid hf
      have HFL := Lib.hid hfl
      have HBB := Lib.hid hB
      clear c0 c1 c3 hf hfl hB
      have hk0 : (0 : Int) ≤ (k : Int) := by omega
      have hk1 : (k : Int) < (fs.length : Int) := by omega
      by_cases hl : f.b.length ≤ 2000
      · have hl1 : ¬ (2000 : Int) < (f.b.length : Int) := by omega
        go_wp2_with fail
        go_roundg (fs.length - k - 1)
        case measure => have := HK.out; omega
        case rel =>
          refine ⟨k + 1, by omega, by go_num, rfl, fun j f' hj hf' => ?_⟩
          rcases Nat.lt_or_ge j k with h | h
          · exact HJ.out j f' h hf'
          · obtain rfl : j = k := by omega
            rw [HF.out] at hf'
            cases hf'
            exact hl
      · have hl1 : (2000 : Int) < (f.b.length : Int) := by omega
        have H : Hid (lightB fs = false) := Lib.hid (by
          simp only [lightB, Bool.and_eq_false_iff]
          right
          rw [List.all_eq_false]
          exact ⟨f, List.mem_of_getElem? HF.out, by simpa using hl⟩)
        go_wp2_with fail
        refine bodyPost_ret (v := .bool false) (by simp [results, Try.results10, go_sem]) rfl ⟨by rw [H.out], ?_⟩
        exact (Below.refl _ _).alloc (Nat.le_refl _) _
end Go.Proofs.Ytiognapakadggaa
