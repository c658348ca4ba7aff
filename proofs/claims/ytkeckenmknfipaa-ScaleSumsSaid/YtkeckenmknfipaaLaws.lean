/- The statements of layer 3 (scale), walked: each law answers true for every input, and writes into new memory alone. -/
import Derived.Test.YtkeckenmknfipaaFns3
namespace Go.Proofs.Ytkeckenmknfipaa
open Go.RowKit

theorem below_from {W w w1 : World} (h : Below w.heap.size w W) (hb : Below W.heap.size W w1) : Below w.heap.size w w1 := h.trans (hb.mono h.size)

set_option maxHeartbeats 1000000 in
theorem awake_any (w : World) : Calls Try.prog 9 #[] w fun e w' => e = .returned (.bool true) ∧ Below w.heap.size w w' := by
  have e1 : dmV 25 1 = 250 := rfl
  have e2 : dmE 25 1 = 0 := rfl
  have e3 : scV 259 1 true = 26 := rfl
  have e4 : scE 259 1 true = 0 := rfl
  have e5 : sumE 1099511627776 1 = 7 := rfl
  have e6 : bestS 32767 = 1 := rfl
  have e7 : bestS 3276601 = -1 := rfl
  go_enter Try.func9, Try.ntmps9
  go_wp2_with fail
  refine (dm_any _ _ _).mono ?_
  rintro e w' ⟨rfl, rfl⟩
  go_wp2_with fail
  refine (sc_any _ _ _ _).mono ?_
  rintro e w' ⟨rfl, rfl⟩
  go_wp2_with fail
  refine (sum_any _ _ _).mono ?_
  rintro e w' ⟨rfl, rfl⟩
  go_wp2_with fail
  refine (best_any _ _).mono ?_
  rintro e w1 ⟨rfl, hb1⟩
  go_wp2_with fail
  refine (best_any _ _).mono ?_
  rintro e w2 ⟨rfl, hb2⟩
  go_wp2_with fail
  go_ret
  exact ⟨rfl, below_from hb1 hb2⟩

set_option maxHeartbeats 2000000 in
theorem dms_any (n s : Int) (w : World) : Calls Try.prog 3 #[.int .i64 n, .int .i64 s] w fun e w' => e = .returned (.bool true) ∧ Below w.heap.size w w' := by
  go_enter Try.func3, Try.ntmps3
  go_wp2_with fail
  refine (awake_any _).mono ?_
  rintro e w1 ⟨rfl, hb1⟩
  go_wp2_with fail
  refine (dm_any _ _ _).mono ?_
  rintro e w' ⟨rfl, rfl⟩
  go_wp2_with fail
  refine (rdm_any _ _ _).mono ?_
  rintro e w' ⟨rfl, rfl⟩
  go_wp2_with fail
  refine (unit_any _ _).mono ?_
  rintro e w' ⟨rfl, rfl⟩
  go_wp2_with fail
  refine (runit_any _ _).mono ?_
  rintro e w' ⟨rfl, rfl⟩
  go_wp2_with fail
  go_ret
  refine ⟨rfl, ?_⟩
  have q1 := hb1.size
  repeat (first | exact Below.refl _ _ | assumption | refine Below.alloc ?_ (by first | omega | (simp; done) | (simp; omega)) _)

set_option maxHeartbeats 2000000 in
theorem scales_any (dm s : Int) (w : World) : Calls Try.prog 4 #[.int .i64 dm, .int .i64 s] w fun e w' => e = .returned (.bool true) ∧ Below w.heap.size w w' := by
  go_enter Try.func4, Try.ntmps4
  go_wp2_with fail
  refine (awake_any _).mono ?_
  rintro e w1 ⟨rfl, hb1⟩
  go_wp2_with fail
  refine (sc_any _ _ _ _).mono ?_
  rintro e w' ⟨rfl, rfl⟩
  go_wp2_with fail
  refine (rsc_any _ _ _ _).mono ?_
  rintro e w' ⟨rfl, rfl⟩
  go_wp2_with fail
  refine (sc_any _ _ _ _).mono ?_
  rintro e w' ⟨rfl, rfl⟩
  go_wp2_with fail
  refine (rsc_any _ _ _ _).mono ?_
  rintro e w' ⟨rfl, rfl⟩
  go_wp2_with fail
  refine (best_any _ _).mono ?_
  rintro e w2 ⟨rfl, hb2⟩
  go_wp2_with fail
  refine (rbest_any _ _).mono ?_
  rintro e w3 ⟨rfl, hb3⟩
  go_wp2_with fail
  go_ret
  refine ⟨rfl, below_from (below_from ?_ hb2) hb3⟩
  have q1 := hb1.size
  repeat (first | exact Below.refl _ _ | assumption | refine Below.alloc ?_ (by first | omega | (simp; done) | (simp; omega)) _)

set_option maxHeartbeats 2000000 in
theorem sums_any (a b : Int) (w : World) : Calls Try.prog 5 #[.int .i64 a, .int .i64 b] w fun e w' => e = .returned (.bool true) ∧ Below w.heap.size w w' := by
  go_enter Try.func5, Try.ntmps5
  go_wp2_with fail
  refine (awake_any _).mono ?_
  rintro e w1 ⟨rfl, hb1⟩
  go_wp2_with fail
  refine (sum_any _ _ _).mono ?_
  rintro e w' ⟨rfl, rfl⟩
  go_wp2_with fail
  refine (rsum_any _ _ _).mono ?_
  rintro e w' ⟨rfl, rfl⟩
  go_wp2_with fail
  go_ret
  exact ⟨rfl, hb1⟩

theorem back_plain {n s : Int} (h : dmE n s = 0) : scE (dmV n s) s false = 0 ∧ scV (dmV n s) s false = n ∧ scE (dmV n s) s true = 0 ∧ scV (dmV n s) s true = n := by
  have hd : dmV n s = n * unitS s := by simp [dmV, h]
  rw [hd]
  unfold dmE at h
  split at h
  · cases h
  · rename_i hu
    split at h
    · cases h
    · rename_i hn
      have hs : s = 0 ∨ s = 1 ∨ s = 2 := by
        unfold unitS at hu
        repeat (split at hu <;> (try (first | exact .inl ‹_› | exact .inr (.inl ‹_›) | exact .inr (.inr ‹_›))))
        exact absurd rfl hu
      rcases hs with rfl | rfl | rfl
      all_goals
        simp only [scE, scV, scN, unitS]
        simp
        omega

set_option maxHeartbeats 2000000 in
theorem back_ok (n s : Int) (w : World) (h : dmE n s = 0) : Calls Try.prog 6 #[.int .i64 n, .int .i64 s] w fun e w' => e = .returned (.bool true) ∧ Below w.heap.size w w' := by
  obtain ⟨e1, e2, e3, e4⟩ := back_plain h
  go_enter Try.func6, Try.ntmps6
  go_wp2_with fail
  refine (awake_any _).mono ?_
  rintro e w1 ⟨rfl, hb1⟩
  go_wp2_with fail
  refine (dm_any _ _ _).mono ?_
  rintro e w' ⟨rfl, rfl⟩
  go_wp2_with fail
  refine (sc_any _ _ _ _).mono ?_
  rintro e w' ⟨rfl, rfl⟩
  go_wp2_with fail
  refine (sc_any _ _ _ _).mono ?_
  rintro e w' ⟨rfl, rfl⟩
  go_wp2_with fail
  go_ret
  exact ⟨rfl, hb1⟩

set_option maxHeartbeats 2000000 in
theorem back_err (n s : Int) (w : World) (h1 : (dmE n s != 0) = true) (h2 : dmV n s = 0) : Calls Try.prog 6 #[.int .i64 n, .int .i64 s] w fun e w' => e = .returned (.bool true) ∧ Below w.heap.size w w' := by
  go_enter Try.func6, Try.ntmps6
  go_wp2_with fail
  refine (awake_any _).mono ?_
  rintro e w1 ⟨rfl, hb1⟩
  go_wp2_with fail
  refine (dm_any _ _ _).mono ?_
  rintro e w' ⟨rfl, rfl⟩
  go_wp2_with fail
  go_ret
  exact ⟨rfl, hb1⟩

theorem back_any (n s : Int) (w : World) : Calls Try.prog 6 #[.int .i64 n, .int .i64 s] w fun e w' => e = .returned (.bool true) ∧ Below w.heap.size w w' := by
  by_cases h : dmE n s = 0
  · exact back_ok n s w h
  · exact back_err n s w (by simpa using h) (by simp [dmV, h])

theorem unitS_scale {s : Int} (hu : unitS s ≠ 0) : s = 0 ∨ s = 1 ∨ s = 2 := by
  unfold unitS at hu
  repeat (split at hu <;> (try (first | exact .inl ‹_› | exact .inr (.inl ‹_›) | exact .inr (.inr ‹_›))))
  exact absurd rfl hu
theorem sc_up_down {dm s : Int} (h : scE dm s true = 0) : scE dm s false = 0 := by
  unfold scE at h ⊢
  split at h
  · cases h
  · rename_i hu
    rw [if_neg hu]
    split at h
    · cases h
    · rename_i hn
      rw [if_neg hn]
      split at h
      · cases h
      · rename_i hb
        rw [if_neg]
        rcases unitS_scale hu with rfl | rfl | rfl <;> simp [scN, unitS] at hb ⊢ <;> omega
theorem best_of {dm s : Int} (hu : unitS s ≠ 0) (h : scE dm s true ≠ 0) : bestS dm ≠ s := by
  rintro rfl
  have := unitS_scale hu
  unfold bestS at h this
  split at h
  · rename_i h0; exact h h0
  · split at h
    · rename_i h1; exact h h1
    · split at h
      · rename_i h2; exact h h2
      · rename_i h0 h1 h2; simp [h0, h1, h2] at this
theorem best_le {dm s : Int} (hu : unitS s ≠ 0) (h : scE dm s true = 0) : 0 ≤ bestS dm ∧ bestS dm ≤ s := by
  unfold bestS
  rcases unitS_scale hu with rfl | rfl | rfl
  · simp [h]
  · by_cases h0 : scE dm 0 true = 0 <;> simp [h, h0]
  · by_cases h0 : scE dm 0 true = 0 <;> by_cases h1 : scE dm 1 true = 0 <;> simp [h, h0, h1]
theorem dm_ok {n s : Int} (hu : unitS s ≠ 0) (h : 0 ≤ n ∧ n ≤ 32766) : dmE n s = 0 ∧ dmV n s = n * unitS s := by
  have : dmE n s = 0 := by
    unfold dmE
    rw [if_neg hu, if_neg (by omega)]
  exact ⟨this, by simp [dmV, this]⟩
theorem rounds_plain {dm s : Int} (hu : unitS s ≠ 0) (h : scE dm s false = 0) (h' : scE dm s true = 0) :
    (dmE (scV dm s false) s = 0 ∧ dmE (scV dm s true) s = 0) ∧ (0 ≤ dmV (scV dm s false) s ∧ dmV (scV dm s false) s ≤ dm ∧ dm - dmV (scV dm s false) s < unitS s) ∧
    (dm ≤ dmV (scV dm s true) s ∧ dmV (scV dm s true) s - dm < unitS s) ∧ (0 ≤ dm ∧ dm ≤ 1099511627776) ∧ unitS s ≤ 100 := by
  have v1 : scV dm s false = scN dm s false := by simp [scV, h]
  have v2 : scV dm s true = scN dm s true := by simp [scV, h']
  rw [v1, v2]
  have b : ¬ (dm < 0 ∨ 1099511627776 < dm) ∧ scN dm s false ≤ 32766 ∧ scN dm s true ≤ 32766 := by
    unfold scE at h h'
    rw [if_neg hu] at h h'
    split at h
    · cases h
    · rename_i hn
      rw [if_neg hn] at h'
      split at h
      · cases h
      · split at h'
        · cases h'
        · exact ⟨hn, by omega, by omega⟩
  obtain ⟨b1, b2, b3⟩ := b
  rcases unitS_scale hu with rfl | rfl | rfl
  all_goals
    have d1 := dm_ok (n := scN dm _ false) hu ⟨by simp [scN, unitS]; omega, b2⟩
    have d2 := dm_ok (n := scN dm _ true) hu ⟨by simp [scN, unitS]; omega, b3⟩
    refine ⟨⟨d1.1, d2.1⟩, ?_, ?_, by omega, by simp [unitS]⟩
    · rw [d1.2]
      simp only [scN, unitS]
      simp
      try omega
    · rw [d2.2]
      simp only [scN, unitS]
      simp
      try omega

set_option maxHeartbeats 2000000 in
theorem rounds_zero (dm s : Int) (w : World) (hu : unitS s = 0) (h1 : scE dm s false = 1) (h2 : scE dm s true = 1) : Calls Try.prog 7 #[.int .i64 dm, .int .i64 s] w fun e w' => e = .returned (.bool true) ∧ Below w.heap.size w w' := by
  go_enter Try.func7, Try.ntmps7
  go_wp2_with fail
  refine (awake_any _).mono ?_
  rintro e w1 ⟨rfl, hb1⟩
  go_wp2_with fail
  refine (sc_any _ _ _ _).mono ?_
  rintro e w' ⟨rfl, rfl⟩
  go_wp2_with fail
  refine (sc_any _ _ _ _).mono ?_
  rintro e w' ⟨rfl, rfl⟩
  go_wp2_with fail
  refine (unit_any _ _).mono ?_
  rintro e w' ⟨rfl, rfl⟩
  go_wp2_with fail
  go_ret
  exact ⟨rfl, hb1⟩

set_option maxHeartbeats 2000000 in
theorem rounds_erra (dm s : Int) (w : World) (hu : (unitS s == 0) = false) (h2 : (scE dm s true != 0) = true) (h3 : (scE dm s true == 0) = false) (hb : (bestS dm != s) = true) (h1 : scE dm s false = 0) : Calls Try.prog 7 #[.int .i64 dm, .int .i64 s] w fun e w' => e = .returned (.bool true) ∧ Below w.heap.size w w' := by
  go_enter Try.func7, Try.ntmps7
  go_wp2_with fail
  refine (awake_any _).mono ?_
  rintro e w1 ⟨rfl, hb1⟩
  go_wp2_with fail
  refine (sc_any _ _ _ _).mono ?_
  rintro e w' ⟨rfl, rfl⟩
  go_wp2_with fail
  refine (sc_any _ _ _ _).mono ?_
  rintro e w' ⟨rfl, rfl⟩
  go_wp2_with fail
  refine (unit_any _ _).mono ?_
  rintro e w' ⟨rfl, rfl⟩
  go_wp2_with fail
  refine (best_any _ _).mono ?_
  rintro e w2 ⟨rfl, hb2⟩
  go_wp2_with fail
  go_ret
  exact ⟨rfl, below_from hb1 hb2⟩

set_option maxHeartbeats 2000000 in
theorem rounds_errb (dm s : Int) (w : World) (hu : (unitS s == 0) = false) (h2 : (scE dm s true != 0) = true) (h3 : (scE dm s true == 0) = false) (hb : (bestS dm != s) = true) (h1 : (scE dm s false != 0) = true) : Calls Try.prog 7 #[.int .i64 dm, .int .i64 s] w fun e w' => e = .returned (.bool true) ∧ Below w.heap.size w w' := by
  go_enter Try.func7, Try.ntmps7
  go_wp2_with fail
  refine (awake_any _).mono ?_
  rintro e w1 ⟨rfl, hb1⟩
  go_wp2_with fail
  refine (sc_any _ _ _ _).mono ?_
  rintro e w' ⟨rfl, rfl⟩
  go_wp2_with fail
  refine (sc_any _ _ _ _).mono ?_
  rintro e w' ⟨rfl, rfl⟩
  go_wp2_with fail
  refine (unit_any _ _).mono ?_
  rintro e w' ⟨rfl, rfl⟩
  go_wp2_with fail
  refine (best_any _ _).mono ?_
  rintro e w2 ⟨rfl, hb2⟩
  go_wp2_with fail
  go_ret
  exact ⟨rfl, below_from hb1 hb2⟩

set_option maxHeartbeats 2000000 in
theorem rounds_ok (dm s : Int) (w : World) (hu : (unitS s == 0) = false) (hu' : unitS s ≠ 0) (h : scE dm s false = 0) (h' : scE dm s true = 0) : Calls Try.prog 7 #[.int .i64 dm, .int .i64 s] w fun e w' => e = .returned (.bool true) ∧ Below w.heap.size w w' := by
  obtain ⟨⟨p1, p2⟩, ⟨p3, p4, p5⟩, ⟨p6, p7⟩, ⟨p8, p9⟩, p10⟩ := rounds_plain hu' h h'
  obtain ⟨q1, q2⟩ := best_le hu' h'
  clear hu'
  go_enter Try.func7, Try.ntmps7
  go_wp2_with fail
  refine (awake_any _).mono ?_
  rintro e w1 ⟨rfl, hb1⟩
  go_wp2_with fail
  refine (sc_any _ _ _ _).mono ?_
  rintro e w' ⟨rfl, rfl⟩
  go_wp2_with fail
  refine (sc_any _ _ _ _).mono ?_
  rintro e w' ⟨rfl, rfl⟩
  go_wp2_with fail
  refine (unit_any _ _).mono ?_
  rintro e w' ⟨rfl, rfl⟩
  go_wp2_with fail
  refine (dm_any _ _ _).mono ?_
  rintro e w' ⟨rfl, rfl⟩
  go_wp2_with fail
  refine (dm_any _ _ _).mono ?_
  rintro e w' ⟨rfl, rfl⟩
  go_wp2_with fail
  refine (best_any _ _).mono ?_
  rintro e w2 ⟨rfl, hb2⟩
  go_wp2_with fail
  go_ret
  exact ⟨rfl, below_from hb1 hb2⟩

theorem rounds_any (dm s : Int) (w : World) : Calls Try.prog 7 #[.int .i64 dm, .int .i64 s] w fun e w' => e = .returned (.bool true) ∧ Below w.heap.size w w' := by
  by_cases hu : unitS s = 0
  · exact rounds_zero dm s w hu (by simp [scE, hu]) (by simp [scE, hu])
  · by_cases h' : scE dm s true = 0
    · exact rounds_ok dm s w (by simpa using hu) hu (sc_up_down h') h'
    · by_cases h : scE dm s false = 0
      · exact rounds_erra dm s w (by simpa using hu) (by simpa using h') (by simpa using h') (by simpa using best_of hu h') h
      · exact rounds_errb dm s w (by simpa using hu) (by simpa using h') (by simpa using h') (by simpa using best_of hu h') (by simpa using h)

theorem sum_comm_any (a b : Int) (w : World) : Calls Try.prog 18 #[.int .i64 b, .int .i64 a] w fun e w' => e = .returned (.tuple #[.int .i64 (sumV a b), .int .i64 (sumE a b)]) ∧ w = w' := by
  have h1 : sumE b a = sumE a b := by
    unfold sumE
    rw [Int.add_comm b a]
    have : (farB b = true ∨ farB a = true ∨ farB (a + b) = true) ↔ (farB a = true ∨ farB b = true ∨ farB (a + b) = true) := by
      constructor
      · rintro (h | h | h)
        · exact .inr (.inl h)
        · exact .inl h
        · exact .inr (.inr h)
      · rintro (h | h | h)
        · exact .inr (.inl h)
        · exact .inl h
        · exact .inr (.inr h)
    simp only [this]
  have h2 : sumV b a = sumV a b := by unfold sumV; rw [h1, Int.add_comm b a]
  have := sum_any b a w
  rwa [h1, h2] at this
theorem sumE_bd {a b : Int} (h : sumE a b = 0) : sumV a b = a + b ∧ (-1099511627776 ≤ a ∧ a ≤ 1099511627776) ∧ (-1099511627776 ≤ b ∧ b ≤ 1099511627776) ∧ -1099511627776 ≤ a + b ∧ a + b ≤ 1099511627776 := by
  have hv : sumV a b = a + b := by simp [sumV, h]
  unfold sumE at h
  split at h
  · cases h
  · rename_i hn
    simp only [farB, decide_eq_true_eq] at hn
    exact ⟨hv, by omega⟩
theorem sumE_of {a b : Int} (h1 : -1099511627776 ≤ a ∧ a ≤ 1099511627776) (h2 : -1099511627776 ≤ b ∧ b ≤ 1099511627776) (h3 : -1099511627776 ≤ a + b ∧ a + b ≤ 1099511627776) : sumE a b = 0 ∧ sumV a b = a + b := by
  have : sumE a b = 0 := by
    unfold sumE
    rw [if_neg]
    simp only [farB, decide_eq_true_eq]
    omega
  exact ⟨this, by simp [sumV, this]⟩
theorem sumE_or (a b : Int) : sumE a b = 0 ∨ sumE a b = 7 := by unfold sumE; split <;> simp

set_option maxHeartbeats 2000000 in
theorem together_err (a b c : Int) (w : World) (h : sumE a b = 7) (h' : sumV a b = 0) : Calls Try.prog 8 #[.int .i64 a, .int .i64 b, .int .i64 c] w fun e w' => e = .returned (.bool true) ∧ Below w.heap.size w w' := by
  go_enter Try.func8, Try.ntmps8
  go_wp2_with fail
  refine (awake_any _).mono ?_
  rintro e w1 ⟨rfl, hb1⟩
  go_wp2_with fail
  refine (sum_any _ _ _).mono ?_
  rintro e w' ⟨rfl, rfl⟩
  go_wp2_with fail
  refine (sum_comm_any _ _ _).mono ?_
  rintro e w' ⟨rfl, rfl⟩
  go_wp2_with fail
  go_ret
  exact ⟨rfl, hb1⟩

set_option maxHeartbeats 2000000 in
theorem together_okp (a b c : Int) (w : World) (h : sumE a b = 0) (hp : (sumE (a + b) c != 0) = true) : Calls Try.prog 8 #[.int .i64 a, .int .i64 b, .int .i64 c] w fun e w' => e = .returned (.bool true) ∧ Below w.heap.size w w' := by
  obtain ⟨v, ⟨a1, a2⟩, ⟨b1, b2⟩, ⟨s1, s2⟩⟩ := sumE_bd h
  have K := sumE_of (a := a + b) (b := -b) ⟨s1, s2⟩ (by omega) (by omega)
  have K2 : a + b + -b = a := by omega
  rw [K2] at K
  obtain ⟨k1, k2⟩ := K
  clear K2
  go_enter Try.func8, Try.ntmps8
  go_wp2_with fail
  refine (awake_any _).mono ?_
  rintro e w1 ⟨rfl, hb1⟩
  go_wp2_with fail
  refine (sum_any _ _ _).mono ?_
  rintro e w' ⟨rfl, rfl⟩
  go_wp2_with fail
  refine (sum_comm_any _ _ _).mono ?_
  rintro e w' ⟨rfl, rfl⟩
  go_wp2_with fail
  refine (sum_any _ _ _).mono ?_
  rintro e w' ⟨rfl, rfl⟩
  go_wp2_with fail
  refine (sum_any _ _ _).mono ?_
  rintro e w' ⟨rfl, rfl⟩
  go_wp2_with fail
  refine (sum_any _ _ _).mono ?_
  rintro e w' ⟨rfl, rfl⟩
  go_wp2_with fail
  refine (sum_any _ _ _).mono ?_
  rintro e w' ⟨rfl, rfl⟩
  go_wp2_with fail
  go_ret
  exact ⟨rfl, hb1⟩

set_option maxHeartbeats 2000000 in
theorem together_okq (a b c : Int) (w : World) (h : sumE a b = 0) (hp : sumE (a + b) c = 0) (hq : (sumE b c != 0) = true) : Calls Try.prog 8 #[.int .i64 a, .int .i64 b, .int .i64 c] w fun e w' => e = .returned (.bool true) ∧ Below w.heap.size w w' := by
  obtain ⟨v, ⟨a1, a2⟩, ⟨b1, b2⟩, ⟨s1, s2⟩⟩ := sumE_bd h
  have K := sumE_of (a := a + b) (b := -b) ⟨s1, s2⟩ (by omega) (by omega)
  have K2 : a + b + -b = a := by omega
  rw [K2] at K
  obtain ⟨k1, k2⟩ := K
  clear K2
  go_enter Try.func8, Try.ntmps8
  go_wp2_with fail
  refine (awake_any _).mono ?_
  rintro e w1 ⟨rfl, hb1⟩
  go_wp2_with fail
  refine (sum_any _ _ _).mono ?_
  rintro e w' ⟨rfl, rfl⟩
  go_wp2_with fail
  refine (sum_comm_any _ _ _).mono ?_
  rintro e w' ⟨rfl, rfl⟩
  go_wp2_with fail
  refine (sum_any _ _ _).mono ?_
  rintro e w' ⟨rfl, rfl⟩
  go_wp2_with fail
  refine (sum_any _ _ _).mono ?_
  rintro e w' ⟨rfl, rfl⟩
  go_wp2_with fail
  refine (sum_any _ _ _).mono ?_
  rintro e w' ⟨rfl, rfl⟩
  go_wp2_with fail
  refine (sum_any _ _ _).mono ?_
  rintro e w' ⟨rfl, rfl⟩
  go_wp2_with fail
  go_ret
  exact ⟨rfl, hb1⟩

set_option maxHeartbeats 2000000 in
theorem together_okr (a b c : Int) (w : World) (h : sumE a b = 0) (hp : sumE (a + b) c = 0) (hq : sumE b c = 0) (hr : (sumE a (sumV b c) != 0) = true) : Calls Try.prog 8 #[.int .i64 a, .int .i64 b, .int .i64 c] w fun e w' => e = .returned (.bool true) ∧ Below w.heap.size w w' := by
  obtain ⟨v, ⟨a1, a2⟩, ⟨b1, b2⟩, ⟨s1, s2⟩⟩ := sumE_bd h
  have K := sumE_of (a := a + b) (b := -b) ⟨s1, s2⟩ (by omega) (by omega)
  have K2 : a + b + -b = a := by omega
  rw [K2] at K
  obtain ⟨k1, k2⟩ := K
  clear K2
  go_enter Try.func8, Try.ntmps8
  go_wp2_with fail
  refine (awake_any _).mono ?_
  rintro e w1 ⟨rfl, hb1⟩
  go_wp2_with fail
  refine (sum_any _ _ _).mono ?_
  rintro e w' ⟨rfl, rfl⟩
  go_wp2_with fail
  refine (sum_comm_any _ _ _).mono ?_
  rintro e w' ⟨rfl, rfl⟩
  go_wp2_with fail
  refine (sum_any _ _ _).mono ?_
  rintro e w' ⟨rfl, rfl⟩
  go_wp2_with fail
  refine (sum_any _ _ _).mono ?_
  rintro e w' ⟨rfl, rfl⟩
  go_wp2_with fail
  refine (sum_any _ _ _).mono ?_
  rintro e w' ⟨rfl, rfl⟩
  go_wp2_with fail
  refine (sum_any _ _ _).mono ?_
  rintro e w' ⟨rfl, rfl⟩
  go_wp2_with fail
  go_ret
  exact ⟨rfl, hb1⟩

set_option maxHeartbeats 2000000 in
theorem together_okz (a b c : Int) (w : World) (h : sumE a b = 0) (hp : sumE (a + b) c = 0) (hq : sumE b c = 0) (hr : sumE a (sumV b c) = 0) (hz : sumV (a + b) c = sumV a (sumV b c)) : Calls Try.prog 8 #[.int .i64 a, .int .i64 b, .int .i64 c] w fun e w' => e = .returned (.bool true) ∧ Below w.heap.size w w' := by
  obtain ⟨v, ⟨a1, a2⟩, ⟨b1, b2⟩, ⟨s1, s2⟩⟩ := sumE_bd h
  have K := sumE_of (a := a + b) (b := -b) ⟨s1, s2⟩ (by omega) (by omega)
  have K2 : a + b + -b = a := by omega
  rw [K2] at K
  obtain ⟨k1, k2⟩ := K
  clear K2
  go_enter Try.func8, Try.ntmps8
  go_wp2_with fail
  refine (awake_any _).mono ?_
  rintro e w1 ⟨rfl, hb1⟩
  go_wp2_with fail
  refine (sum_any _ _ _).mono ?_
  rintro e w' ⟨rfl, rfl⟩
  go_wp2_with fail
  refine (sum_comm_any _ _ _).mono ?_
  rintro e w' ⟨rfl, rfl⟩
  go_wp2_with fail
  refine (sum_any _ _ _).mono ?_
  rintro e w' ⟨rfl, rfl⟩
  go_wp2_with fail
  refine (sum_any _ _ _).mono ?_
  rintro e w' ⟨rfl, rfl⟩
  go_wp2_with fail
  refine (sum_any _ _ _).mono ?_
  rintro e w' ⟨rfl, rfl⟩
  go_wp2_with fail
  refine (sum_any _ _ _).mono ?_
  rintro e w' ⟨rfl, rfl⟩
  go_wp2_with fail
  go_ret
  exact ⟨rfl, hb1⟩

theorem together_any (a b c : Int) (w : World) : Calls Try.prog 8 #[.int .i64 a, .int .i64 b, .int .i64 c] w fun e w' => e = .returned (.bool true) ∧ Below w.heap.size w w' := by
  rcases sumE_or a b with h | h
  · by_cases hp : sumE (a + b) c = 0
    · by_cases hq : sumE b c = 0
      · by_cases hr : sumE a (sumV b c) = 0
        · refine together_okz a b c w h hp hq hr ?_
          rw [(sumE_bd hp).1, (sumE_bd hr).1, (sumE_bd hq).1]
          omega
        · exact together_okr a b c w h hp hq (by simpa using hr)
      · exact together_okq a b c w h hp (by simpa using hq)
    · exact together_okp a b c w h (by simpa using hp)
  · exact together_err a b c w h (by simp [sumV, h])
end Go.Proofs.Ytkeckenmknfipaa
