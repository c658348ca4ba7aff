/- Sum and Best of package scale and of its reference. -/
import Derived.Test.YtkeckenmknfipaaFns2
import Derived.WalkMore
namespace Go.Proofs.Ytkeckenmknfipaa
open Go.RowKit

theorem far_f {n : Int} (h : farB n = false) : -1099511627776 ≤ n ∧ n ≤ 1099511627776 := by simp [farB] at h; omega

set_option maxHeartbeats 1000000 in
theorem sum_any (a b : Int) (w : World) : Calls Try.prog 18 #[.int .i64 a, .int .i64 b] w fun e w' => e = .returned (.tuple #[.int .i64 (sumV a b), .int .i64 (sumE a b)]) ∧ w = w' := by
  by_cases h1 : farB a = true
  · have H : Hid (sumE a b = 7 ∧ sumV a b = 0) := Lib.hid (by simp [sumE, sumV, *])
    go_enter Try.func18, Try.ntmps18
    go_wp2_with (go_at_call 20; refine (far_any _ _).mono ?_; rintro e w' ⟨rfl, rfl⟩)
    go_ret2
    exact ⟨by rw [H.out.1, H.out.2]; rfl, rfl⟩
  · have h1 := Bool.eq_false_iff.2 h1
    by_cases h2 : farB b = true
    · have H : Hid (sumE a b = 7 ∧ sumV a b = 0) := Lib.hid (by simp [sumE, sumV, *])
      go_enter Try.func18, Try.ntmps18
      go_wp2_with (go_at_call 20; refine (far_any _ _).mono ?_; rintro e w' ⟨rfl, rfl⟩)
      go_ret2
      exact ⟨by rw [H.out.1, H.out.2]; rfl, rfl⟩
    · have h2 := Bool.eq_false_iff.2 h2
      obtain ⟨a1, a2⟩ := far_f h1
      obtain ⟨b1, b2⟩ := far_f h2
      by_cases h3 : farB (a + b) = true
      · have H : Hid (sumE a b = 7 ∧ sumV a b = 0) := Lib.hid (by simp [sumE, sumV, *])
        go_enter Try.func18, Try.ntmps18
        go_wp2_with (go_at_call 20; refine (far_any _ _).mono ?_; rintro e w' ⟨rfl, rfl⟩)
        go_ret2
        exact ⟨by rw [H.out.1, H.out.2]; rfl, rfl⟩
      · have h3 := Bool.eq_false_iff.2 h3
        have H : Hid (sumE a b = 0 ∧ sumV a b = a + b) := Lib.hid (by simp [sumE, sumV, *])
        go_enter Try.func18, Try.ntmps18
        go_wp2_with (go_at_call 20; refine (far_any _ _).mono ?_; rintro e w' ⟨rfl, rfl⟩)
        go_ret2
        exact ⟨by rw [H.out.1, H.out.2]; rfl, rfl⟩

set_option maxHeartbeats 1000000 in
theorem rsum_any (a b : Int) (w : World) : Calls Try.prog 19 #[.int .i64 a, .int .i64 b] w fun e w' => e = .returned (.tuple #[.int .i64 (sumV a b), .int .i64 (sumE a b)]) ∧ w = w' := by
  by_cases c0 : a < -1099511627776
  · have H : Hid (sumE a b = 7 ∧ sumV a b = 0) := Lib.hid (by simp [sumE, sumV, farB, c0])
    go_enter Try.func19, Try.ntmps19
    go_wp2
    go_ret2
    exact ⟨by rw [H.out.1, H.out.2]; rfl, rfl⟩
  by_cases c1 : 1099511627776 < a
  · have H : Hid (sumE a b = 7 ∧ sumV a b = 0) := Lib.hid (by simp [sumE, sumV, farB, c1])
    go_enter Try.func19, Try.ntmps19
    go_wp2
    go_ret2
    exact ⟨by rw [H.out.1, H.out.2]; rfl, rfl⟩
  by_cases c2 : b < -1099511627776
  · have H : Hid (sumE a b = 7 ∧ sumV a b = 0) := Lib.hid (by simp [sumE, sumV, farB, c2])
    go_enter Try.func19, Try.ntmps19
    go_wp2
    go_ret2
    exact ⟨by rw [H.out.1, H.out.2]; rfl, rfl⟩
  by_cases c3 : 1099511627776 < b
  · have H : Hid (sumE a b = 7 ∧ sumV a b = 0) := Lib.hid (by simp [sumE, sumV, farB, c3])
    go_enter Try.func19, Try.ntmps19
    go_wp2
    go_ret2
    exact ⟨by rw [H.out.1, H.out.2]; rfl, rfl⟩
  by_cases c4 : a + b < -1099511627776
  · have H : Hid (sumE a b = 7 ∧ sumV a b = 0) := Lib.hid (by simp [sumE, sumV, farB, c4])
    go_enter Try.func19, Try.ntmps19
    go_wp2
    go_ret2
    exact ⟨by rw [H.out.1, H.out.2]; rfl, rfl⟩
  by_cases c5 : 1099511627776 < a + b
  · have H : Hid (sumE a b = 7 ∧ sumV a b = 0) := Lib.hid (by simp [sumE, sumV, farB, c5])
    go_enter Try.func19, Try.ntmps19
    go_wp2
    go_ret2
    exact ⟨by rw [H.out.1, H.out.2]; rfl, rfl⟩
  have H : Hid (sumE a b = 0 ∧ sumV a b = a + b) := Lib.hid (by simp [sumE, sumV, farB, c0, c1, c2, c3, c4, c5])
  go_enter Try.func19, Try.ntmps19
  go_wp2
  go_ret2
  exact ⟨by rw [H.out.1, H.out.2]; rfl, rfl⟩

set_option maxHeartbeats 4000000 in
theorem best_any (dm : Int) (w : World) : Calls Try.prog 16 #[.int .i64 dm] w fun e w' => e = .returned (.int .i64 (bestS dm)) ∧ Below w.heap.size w w' := by
  by_cases e0 : scE dm 0 true = 0
  · have H : Hid (bestS dm = 0) := Lib.hid (by simp [bestS, e0])
    go_enter Try.func16, Try.ntmps16
    go_wp2_with fail
    refine wp_loop_rounds 1 ?_
    rw [rounds_succ]
    go_wp2_with (go_at_call 14; refine (sc_any _ _ _ _).mono ?_; rintro e w' ⟨rfl, rfl⟩)
    go_ret
    refine ⟨by rw [H.out]; rfl, ?_⟩
    repeat (first | exact Below.refl _ _ | refine Below.alloc ?_ (by first | omega | (simp; done) | (simp; omega)) _)
  have f0 : (scE dm 0 true == 0) = false := by simpa using e0
  by_cases e1 : scE dm 1 true = 0
  · have H : Hid (bestS dm = 1) := Lib.hid (by simp [bestS, e0, e1])
    go_enter Try.func16, Try.ntmps16
    go_wp2_with fail
    refine wp_loop_rounds 2 ?_
    rw [rounds_succ]
    go_wp2_with (go_at_call 14; refine (sc_any _ _ _ _).mono ?_; rintro e w' ⟨rfl, rfl⟩)
    rw [rounds_succ]
    go_wp2_with (go_at_call 14; refine (sc_any _ _ _ _).mono ?_; rintro e w' ⟨rfl, rfl⟩)
    go_ret
    refine ⟨by rw [H.out]; rfl, ?_⟩
    repeat (first | exact Below.refl _ _ | refine Below.alloc ?_ (by first | omega | (simp; done) | (simp; omega)) _)
  have f1 : (scE dm 1 true == 0) = false := by simpa using e1
  by_cases e2 : scE dm 2 true = 0
  · have H : Hid (bestS dm = 2) := Lib.hid (by simp [bestS, e0, e1, e2])
    go_enter Try.func16, Try.ntmps16
    go_wp2_with fail
    refine wp_loop_rounds 3 ?_
    rw [rounds_succ]
    go_wp2_with (go_at_call 14; refine (sc_any _ _ _ _).mono ?_; rintro e w' ⟨rfl, rfl⟩)
    rw [rounds_succ]
    go_wp2_with (go_at_call 14; refine (sc_any _ _ _ _).mono ?_; rintro e w' ⟨rfl, rfl⟩)
    rw [rounds_succ]
    go_wp2_with (go_at_call 14; refine (sc_any _ _ _ _).mono ?_; rintro e w' ⟨rfl, rfl⟩)
    go_ret
    refine ⟨by rw [H.out]; rfl, ?_⟩
    repeat (first | exact Below.refl _ _ | refine Below.alloc ?_ (by first | omega | (simp; done) | (simp; omega)) _)
  have f2 : (scE dm 2 true == 0) = false := by simpa using e2
  have H : Hid (bestS dm = -1) := Lib.hid (by simp [bestS, e0, e1, e2])
  clear e0 e1 e2
  go_enter Try.func16, Try.ntmps16
  go_wp2_with fail
  refine wp_loop_rounds 4 ?_
  rw [rounds_succ]
  go_wp2_with (go_at_call 14; refine (sc_any _ _ _ _).mono ?_; rintro e w' ⟨rfl, rfl⟩)
  rw [rounds_succ]
  go_wp2_with (go_at_call 14; refine (sc_any _ _ _ _).mono ?_; rintro e w' ⟨rfl, rfl⟩)
  rw [rounds_succ]
  go_wp2_with (go_at_call 14; refine (sc_any _ _ _ _).mono ?_; rintro e w' ⟨rfl, rfl⟩)
  rw [rounds_succ]
  go_wp2_with (go_at_call 14; refine (sc_any _ _ _ _).mono ?_; rintro e w' ⟨rfl, rfl⟩)
  go_ret
  refine ⟨by rw [H.out]; rfl, ?_⟩
  repeat (first | exact Below.refl _ _ | refine Below.alloc ?_ (by first | omega | (simp; done) | (simp; omega)) _)

set_option maxHeartbeats 4000000 in
theorem rbest_any (dm : Int) (w : World) : Calls Try.prog 17 #[.int .i64 dm] w fun e w' => e = .returned (.int .i64 (bestS dm)) ∧ Below w.heap.size w w' := by
  by_cases e0 : scE dm 0 true = 0
  · have H : Hid (bestS dm = 0) := Lib.hid (by simp [bestS, e0])
    go_enter Try.func17, Try.ntmps17
    go_wp2_with fail
    refine wp_loop_rounds 1 ?_
    rw [rounds_succ]
    go_wp2_with (go_at_call 15; refine (rsc_any _ _ _ _).mono ?_; rintro e w' ⟨rfl, rfl⟩)
    go_ret
    refine ⟨by rw [H.out]; rfl, ?_⟩
    repeat (first | exact Below.refl _ _ | refine Below.alloc ?_ (by first | omega | (simp; done) | (simp; omega)) _)
  have f0 : (scE dm 0 true == 0) = false := by simpa using e0
  by_cases e1 : scE dm 1 true = 0
  · have H : Hid (bestS dm = 1) := Lib.hid (by simp [bestS, e0, e1])
    go_enter Try.func17, Try.ntmps17
    go_wp2_with fail
    refine wp_loop_rounds 2 ?_
    rw [rounds_succ]
    go_wp2_with (go_at_call 15; refine (rsc_any _ _ _ _).mono ?_; rintro e w' ⟨rfl, rfl⟩)
    rw [rounds_succ]
    go_wp2_with (go_at_call 15; refine (rsc_any _ _ _ _).mono ?_; rintro e w' ⟨rfl, rfl⟩)
    go_ret
    refine ⟨by rw [H.out]; rfl, ?_⟩
    repeat (first | exact Below.refl _ _ | refine Below.alloc ?_ (by first | omega | (simp; done) | (simp; omega)) _)
  have f1 : (scE dm 1 true == 0) = false := by simpa using e1
  by_cases e2 : scE dm 2 true = 0
  · have H : Hid (bestS dm = 2) := Lib.hid (by simp [bestS, e0, e1, e2])
    go_enter Try.func17, Try.ntmps17
    go_wp2_with fail
    refine wp_loop_rounds 3 ?_
    rw [rounds_succ]
    go_wp2_with (go_at_call 15; refine (rsc_any _ _ _ _).mono ?_; rintro e w' ⟨rfl, rfl⟩)
    rw [rounds_succ]
    go_wp2_with (go_at_call 15; refine (rsc_any _ _ _ _).mono ?_; rintro e w' ⟨rfl, rfl⟩)
    rw [rounds_succ]
    go_wp2_with (go_at_call 15; refine (rsc_any _ _ _ _).mono ?_; rintro e w' ⟨rfl, rfl⟩)
    go_ret
    refine ⟨by rw [H.out]; rfl, ?_⟩
    repeat (first | exact Below.refl _ _ | refine Below.alloc ?_ (by first | omega | (simp; done) | (simp; omega)) _)
  have f2 : (scE dm 2 true == 0) = false := by simpa using e2
  have H : Hid (bestS dm = -1) := Lib.hid (by simp [bestS, e0, e1, e2])
  clear e0 e1 e2
  go_enter Try.func17, Try.ntmps17
  go_wp2_with fail
  refine wp_loop_rounds 4 ?_
  rw [rounds_succ]
  go_wp2_with (go_at_call 15; refine (rsc_any _ _ _ _).mono ?_; rintro e w' ⟨rfl, rfl⟩)
  rw [rounds_succ]
  go_wp2_with (go_at_call 15; refine (rsc_any _ _ _ _).mono ?_; rintro e w' ⟨rfl, rfl⟩)
  rw [rounds_succ]
  go_wp2_with (go_at_call 15; refine (rsc_any _ _ _ _).mono ?_; rintro e w' ⟨rfl, rfl⟩)
  rw [rounds_succ]
  go_wp2_with (go_at_call 15; refine (rsc_any _ _ _ _).mono ?_; rintro e w' ⟨rfl, rfl⟩)
  go_ret
  refine ⟨by rw [H.out]; rfl, ?_⟩
  repeat (first | exact Below.refl _ _ | refine Below.alloc ?_ (by first | omega | (simp; done) | (simp; omega)) _)
end Go.Proofs.Ytkeckenmknfipaa
