/- Dm, Scaled, Sum of package scale and of its reference. -/
import Derived.Test.YtkeckenmknfipaaFns
namespace Go.Proofs.Ytkeckenmknfipaa
open Go.RowKit

set_option maxHeartbeats 1000000 in
theorem dm_any (n s : Int) (w : World) : Calls Try.prog 10 #[.int .i64 n, .int .i64 s] w fun e w' => e = .returned (.tuple #[.int .i64 (dmV n s), .int .i64 (dmE n s)]) ∧ w = w' := by
  by_cases s0 : s = 0
  · subst s0
    have U : Hid (unitS 0 = 1) := Lib.hid rfl
    by_cases c1 : n < 0
    · have H : Hid (dmE n 0 = 7 ∧ dmV n 0 = 0) := Lib.hid (by simp [dmE, dmV, U.out, c1])
      go_enter Try.func10, Try.ntmps10
      go_wp2_with fail
      refine (unit_any _ _).mono ?_
      rintro e w' ⟨rfl, rfl⟩
      rw [U.out]
      go_wp2
      go_ret2
      exact ⟨by rw [H.out.1, H.out.2]; rfl, rfl⟩
    · by_cases c2 : 32766 < n
      · have H : Hid (dmE n 0 = 7 ∧ dmV n 0 = 0) := Lib.hid (by simp [dmE, dmV, U.out, c2])
        go_enter Try.func10, Try.ntmps10
        go_wp2_with fail
        refine (unit_any _ _).mono ?_
        rintro e w' ⟨rfl, rfl⟩
        rw [U.out]
        go_wp2
        go_ret2
        exact ⟨by rw [H.out.1, H.out.2]; rfl, rfl⟩
      · have H : Hid (dmE n 0 = 0 ∧ dmV n 0 = n) := Lib.hid (by simp [dmE, dmV, U.out, c1, c2])
        go_enter Try.func10, Try.ntmps10
        go_wp2_with fail
        refine (unit_any _ _).mono ?_
        rintro e w' ⟨rfl, rfl⟩
        rw [U.out]
        go_wp2
        go_ret2
        exact ⟨by rw [H.out.1, H.out.2]; rfl, rfl⟩
  by_cases s1 : s = 1
  · subst s1
    have U : Hid (unitS 1 = 10) := Lib.hid rfl
    by_cases c1 : n < 0
    · have H : Hid (dmE n 1 = 7 ∧ dmV n 1 = 0) := Lib.hid (by simp [dmE, dmV, U.out, c1])
      go_enter Try.func10, Try.ntmps10
      go_wp2_with fail
      refine (unit_any _ _).mono ?_
      rintro e w' ⟨rfl, rfl⟩
      rw [U.out]
      go_wp2
      go_ret2
      exact ⟨by rw [H.out.1, H.out.2]; rfl, rfl⟩
    · by_cases c2 : 32766 < n
      · have H : Hid (dmE n 1 = 7 ∧ dmV n 1 = 0) := Lib.hid (by simp [dmE, dmV, U.out, c2])
        go_enter Try.func10, Try.ntmps10
        go_wp2_with fail
        refine (unit_any _ _).mono ?_
        rintro e w' ⟨rfl, rfl⟩
        rw [U.out]
        go_wp2
        go_ret2
        exact ⟨by rw [H.out.1, H.out.2]; rfl, rfl⟩
      · have H : Hid (dmE n 1 = 0 ∧ dmV n 1 = n * 10) := Lib.hid (by simp [dmE, dmV, U.out, c1, c2])
        go_enter Try.func10, Try.ntmps10
        go_wp2_with fail
        refine (unit_any _ _).mono ?_
        rintro e w' ⟨rfl, rfl⟩
        rw [U.out]
        go_wp2
        go_ret2
        exact ⟨by rw [H.out.1, H.out.2]; rfl, rfl⟩
  by_cases s2 : s = 2
  · subst s2
    have U : Hid (unitS 2 = 100) := Lib.hid rfl
    by_cases c1 : n < 0
    · have H : Hid (dmE n 2 = 7 ∧ dmV n 2 = 0) := Lib.hid (by simp [dmE, dmV, U.out, c1])
      go_enter Try.func10, Try.ntmps10
      go_wp2_with fail
      refine (unit_any _ _).mono ?_
      rintro e w' ⟨rfl, rfl⟩
      rw [U.out]
      go_wp2
      go_ret2
      exact ⟨by rw [H.out.1, H.out.2]; rfl, rfl⟩
    · by_cases c2 : 32766 < n
      · have H : Hid (dmE n 2 = 7 ∧ dmV n 2 = 0) := Lib.hid (by simp [dmE, dmV, U.out, c2])
        go_enter Try.func10, Try.ntmps10
        go_wp2_with fail
        refine (unit_any _ _).mono ?_
        rintro e w' ⟨rfl, rfl⟩
        rw [U.out]
        go_wp2
        go_ret2
        exact ⟨by rw [H.out.1, H.out.2]; rfl, rfl⟩
      · have H : Hid (dmE n 2 = 0 ∧ dmV n 2 = n * 100) := Lib.hid (by simp [dmE, dmV, U.out, c1, c2])
        go_enter Try.func10, Try.ntmps10
        go_wp2_with fail
        refine (unit_any _ _).mono ?_
        rintro e w' ⟨rfl, rfl⟩
        rw [U.out]
        go_wp2
        go_ret2
        exact ⟨by rw [H.out.1, H.out.2]; rfl, rfl⟩
  · have u0 := Lib.hid (unitS_other s0 s1 s2)
    clear s0 s1 s2
    have U := u0
    have H : Hid (dmE n s = 1 ∧ dmV n s = 0) := Lib.hid (by simp [dmE, dmV, u0.out])
    go_enter Try.func10, Try.ntmps10
    go_wp2_with fail
    refine (unit_any _ _).mono ?_
    rintro e w' ⟨rfl, rfl⟩
    rw [U.out]
    go_wp2
    go_ret2
    exact ⟨by rw [H.out.1, H.out.2]; rfl, rfl⟩

set_option maxHeartbeats 1000000 in
theorem rdm_any (n s : Int) (w : World) : Calls Try.prog 11 #[.int .i64 n, .int .i64 s] w fun e w' => e = .returned (.tuple #[.int .i64 (dmV n s), .int .i64 (dmE n s)]) ∧ w.alloc (.cells #[.int .i64 1, .int .i64 10, .int .i64 100] 3) = w' := by
  by_cases s0 : s = 0
  · subst s0
    have U : Hid (unitS 0 = 1) := Lib.hid rfl
    by_cases c1 : n < 0
    · have H : Hid (dmE n 0 = 7 ∧ dmV n 0 = 0) := Lib.hid (by simp [dmE, dmV, U.out, c1])
      go_enter Try.func11, Try.ntmps11
      go_wp2_with fail
      refine (runit_any _ _).mono ?_
      rintro e w' ⟨rfl, rfl⟩
      rw [U.out]
      go_wp2
      go_ret2
      exact ⟨by rw [H.out.1, H.out.2]; rfl, rfl⟩
    · by_cases c2 : 32766 < n
      · have H : Hid (dmE n 0 = 7 ∧ dmV n 0 = 0) := Lib.hid (by simp [dmE, dmV, U.out, c2])
        go_enter Try.func11, Try.ntmps11
        go_wp2_with fail
        refine (runit_any _ _).mono ?_
        rintro e w' ⟨rfl, rfl⟩
        rw [U.out]
        go_wp2
        go_ret2
        exact ⟨by rw [H.out.1, H.out.2]; rfl, rfl⟩
      · have H : Hid (dmE n 0 = 0 ∧ dmV n 0 = n) := Lib.hid (by simp [dmE, dmV, U.out, c1, c2])
        go_enter Try.func11, Try.ntmps11
        go_wp2_with fail
        refine (runit_any _ _).mono ?_
        rintro e w' ⟨rfl, rfl⟩
        rw [U.out]
        go_wp2
        go_ret2
        exact ⟨by rw [H.out.1, H.out.2]; rfl, rfl⟩
  by_cases s1 : s = 1
  · subst s1
    have U : Hid (unitS 1 = 10) := Lib.hid rfl
    by_cases c1 : n < 0
    · have H : Hid (dmE n 1 = 7 ∧ dmV n 1 = 0) := Lib.hid (by simp [dmE, dmV, U.out, c1])
      go_enter Try.func11, Try.ntmps11
      go_wp2_with fail
      refine (runit_any _ _).mono ?_
      rintro e w' ⟨rfl, rfl⟩
      rw [U.out]
      go_wp2
      go_ret2
      exact ⟨by rw [H.out.1, H.out.2]; rfl, rfl⟩
    · by_cases c2 : 32766 < n
      · have H : Hid (dmE n 1 = 7 ∧ dmV n 1 = 0) := Lib.hid (by simp [dmE, dmV, U.out, c2])
        go_enter Try.func11, Try.ntmps11
        go_wp2_with fail
        refine (runit_any _ _).mono ?_
        rintro e w' ⟨rfl, rfl⟩
        rw [U.out]
        go_wp2
        go_ret2
        exact ⟨by rw [H.out.1, H.out.2]; rfl, rfl⟩
      · have H : Hid (dmE n 1 = 0 ∧ dmV n 1 = n * 10) := Lib.hid (by simp [dmE, dmV, U.out, c1, c2])
        go_enter Try.func11, Try.ntmps11
        go_wp2_with fail
        refine (runit_any _ _).mono ?_
        rintro e w' ⟨rfl, rfl⟩
        rw [U.out]
        go_wp2
        go_ret2
        exact ⟨by rw [H.out.1, H.out.2]; rfl, rfl⟩
  by_cases s2 : s = 2
  · subst s2
    have U : Hid (unitS 2 = 100) := Lib.hid rfl
    by_cases c1 : n < 0
    · have H : Hid (dmE n 2 = 7 ∧ dmV n 2 = 0) := Lib.hid (by simp [dmE, dmV, U.out, c1])
      go_enter Try.func11, Try.ntmps11
      go_wp2_with fail
      refine (runit_any _ _).mono ?_
      rintro e w' ⟨rfl, rfl⟩
      rw [U.out]
      go_wp2
      go_ret2
      exact ⟨by rw [H.out.1, H.out.2]; rfl, rfl⟩
    · by_cases c2 : 32766 < n
      · have H : Hid (dmE n 2 = 7 ∧ dmV n 2 = 0) := Lib.hid (by simp [dmE, dmV, U.out, c2])
        go_enter Try.func11, Try.ntmps11
        go_wp2_with fail
        refine (runit_any _ _).mono ?_
        rintro e w' ⟨rfl, rfl⟩
        rw [U.out]
        go_wp2
        go_ret2
        exact ⟨by rw [H.out.1, H.out.2]; rfl, rfl⟩
      · have H : Hid (dmE n 2 = 0 ∧ dmV n 2 = n * 100) := Lib.hid (by simp [dmE, dmV, U.out, c1, c2])
        go_enter Try.func11, Try.ntmps11
        go_wp2_with fail
        refine (runit_any _ _).mono ?_
        rintro e w' ⟨rfl, rfl⟩
        rw [U.out]
        go_wp2
        go_ret2
        exact ⟨by rw [H.out.1, H.out.2]; rfl, rfl⟩
  · have u0 := Lib.hid (unitS_other s0 s1 s2)
    clear s0 s1 s2
    have U := u0
    have H : Hid (dmE n s = 1 ∧ dmV n s = 0) := Lib.hid (by simp [dmE, dmV, u0.out])
    go_enter Try.func11, Try.ntmps11
    go_wp2_with fail
    refine (runit_any _ _).mono ?_
    rintro e w' ⟨rfl, rfl⟩
    rw [U.out]
    go_wp2
    go_ret2
    exact ⟨by rw [H.out.1, H.out.2]; rfl, rfl⟩

set_option maxHeartbeats 4000000 in
theorem sc_any (dm s : Int) (up : Bool) (w : World) : Calls Try.prog 14 #[.int .i64 dm, .int .i64 s, .bool up] w fun e w' => e = .returned (.tuple #[.int .i64 (scV dm s up), .int .i64 (scE dm s up)]) ∧ w = w' := by
  by_cases s0 : s = 0
  · subst s0
    have U : Hid (unitS 0 = 1) := Lib.hid rfl
    by_cases c1 : dm < 0
    · have H : Hid (scE dm 0 up = 7 ∧ scV dm 0 up = 0) := Lib.hid (by simp [scE, scV, U.out, c1])
      go_enter Try.func14, Try.ntmps14
      go_wp2_with fail
      refine (unit_any _ _).mono ?_
      rintro e w' ⟨rfl, rfl⟩
      rw [U.out]
      go_wp2
      go_ret2
      exact ⟨by rw [H.out.1, H.out.2]; rfl, rfl⟩
    · by_cases c2 : 1099511627776 < dm
      · have H : Hid (scE dm 0 up = 7 ∧ scV dm 0 up = 0) := Lib.hid (by simp [scE, scV, U.out, c2])
        go_enter Try.func14, Try.ntmps14
        go_wp2_with fail
        refine (unit_any _ _).mono ?_
        rintro e w' ⟨rfl, rfl⟩
        rw [U.out]
        go_wp2
        go_ret2
        exact ⟨by rw [H.out.1, H.out.2]; rfl, rfl⟩
      · have c3 : 0 ≤ dm := by omega
        have c4 : dm ≤ 1099511627776 := by omega
        cases up
        · by_cases c5 : 32766 < dm
          · have H : Hid (scE dm 0 false = 7 ∧ scV dm 0 false = 0) := Lib.hid (by simp [scE, scV, scN, U.out, c1, c2, c5])
            go_enter Try.func14, Try.ntmps14
            go_wp2_with fail
            refine (unit_any _ _).mono ?_
            rintro e w' ⟨rfl, rfl⟩
            rw [U.out]
            go_wp2
            go_ret2
            exact ⟨by rw [H.out.1, H.out.2]; rfl, rfl⟩
          · have H : Hid (scE dm 0 false = 0 ∧ scV dm 0 false = dm) := Lib.hid (by simp [scE, scV, scN, U.out, c1, c2, c5])
            go_enter Try.func14, Try.ntmps14
            go_wp2_with fail
            refine (unit_any _ _).mono ?_
            rintro e w' ⟨rfl, rfl⟩
            rw [U.out]
            go_wp2
            go_ret2
            exact ⟨by rw [H.out.1, H.out.2]; rfl, rfl⟩
        · by_cases c5 : 32766 < dm
          · have H : Hid (scE dm 0 true = 7 ∧ scV dm 0 true = 0) := Lib.hid (by simp [scE, scV, scN, U.out, c1, c2, c5])
            go_enter Try.func14, Try.ntmps14
            go_wp2_with fail
            refine (unit_any _ _).mono ?_
            rintro e w' ⟨rfl, rfl⟩
            rw [U.out]
            go_wp2
            go_ret2
            exact ⟨by rw [H.out.1, H.out.2]; rfl, rfl⟩
          · have H : Hid (scE dm 0 true = 0 ∧ scV dm 0 true = dm) := Lib.hid (by simp [scE, scV, scN, U.out, c1, c2, c5])
            go_enter Try.func14, Try.ntmps14
            go_wp2_with fail
            refine (unit_any _ _).mono ?_
            rintro e w' ⟨rfl, rfl⟩
            rw [U.out]
            go_wp2
            go_ret2
            exact ⟨by rw [H.out.1, H.out.2]; rfl, rfl⟩
  by_cases s1 : s = 1
  · subst s1
    have U : Hid (unitS 1 = 10) := Lib.hid rfl
    by_cases c1 : dm < 0
    · have H : Hid (scE dm 1 up = 7 ∧ scV dm 1 up = 0) := Lib.hid (by simp [scE, scV, U.out, c1])
      go_enter Try.func14, Try.ntmps14
      go_wp2_with fail
      refine (unit_any _ _).mono ?_
      rintro e w' ⟨rfl, rfl⟩
      rw [U.out]
      go_wp2
      go_ret2
      exact ⟨by rw [H.out.1, H.out.2]; rfl, rfl⟩
    · by_cases c2 : 1099511627776 < dm
      · have H : Hid (scE dm 1 up = 7 ∧ scV dm 1 up = 0) := Lib.hid (by simp [scE, scV, U.out, c2])
        go_enter Try.func14, Try.ntmps14
        go_wp2_with fail
        refine (unit_any _ _).mono ?_
        rintro e w' ⟨rfl, rfl⟩
        rw [U.out]
        go_wp2
        go_ret2
        exact ⟨by rw [H.out.1, H.out.2]; rfl, rfl⟩
      · have c3 : 0 ≤ dm := by omega
        have c4 : dm ≤ 1099511627776 := by omega
        cases up
        · by_cases c5 : 32766 < dm / 10
          · have H : Hid (scE dm 1 false = 7 ∧ scV dm 1 false = 0) := Lib.hid (by simp [scE, scV, scN, U.out, c1, c2, c5])
            go_enter Try.func14, Try.ntmps14
            go_wp2_with fail
            refine (unit_any _ _).mono ?_
            rintro e w' ⟨rfl, rfl⟩
            rw [U.out]
            go_wp2
            go_ret2
            exact ⟨by rw [H.out.1, H.out.2]; rfl, rfl⟩
          · have H : Hid (scE dm 1 false = 0 ∧ scV dm 1 false = dm / 10) := Lib.hid (by simp [scE, scV, scN, U.out, c1, c2, c5])
            go_enter Try.func14, Try.ntmps14
            go_wp2_with fail
            refine (unit_any _ _).mono ?_
            rintro e w' ⟨rfl, rfl⟩
            rw [U.out]
            go_wp2
            go_ret2
            exact ⟨by rw [H.out.1, H.out.2]; rfl, rfl⟩
        · by_cases c5 : 32766 < (dm + 9) / 10
          · have H : Hid (scE dm 1 true = 7 ∧ scV dm 1 true = 0) := Lib.hid (by simp [scE, scV, scN, U.out, c1, c2, c5])
            go_enter Try.func14, Try.ntmps14
            go_wp2_with fail
            refine (unit_any _ _).mono ?_
            rintro e w' ⟨rfl, rfl⟩
            rw [U.out]
            go_wp2
            go_ret2
            exact ⟨by rw [H.out.1, H.out.2]; rfl, rfl⟩
          · have H : Hid (scE dm 1 true = 0 ∧ scV dm 1 true = (dm + 9) / 10) := Lib.hid (by simp [scE, scV, scN, U.out, c1, c2, c5])
            go_enter Try.func14, Try.ntmps14
            go_wp2_with fail
            refine (unit_any _ _).mono ?_
            rintro e w' ⟨rfl, rfl⟩
            rw [U.out]
            go_wp2
            go_ret2
            exact ⟨by rw [H.out.1, H.out.2]; rfl, rfl⟩
  by_cases s2 : s = 2
  · subst s2
    have U : Hid (unitS 2 = 100) := Lib.hid rfl
    by_cases c1 : dm < 0
    · have H : Hid (scE dm 2 up = 7 ∧ scV dm 2 up = 0) := Lib.hid (by simp [scE, scV, U.out, c1])
      go_enter Try.func14, Try.ntmps14
      go_wp2_with fail
      refine (unit_any _ _).mono ?_
      rintro e w' ⟨rfl, rfl⟩
      rw [U.out]
      go_wp2
      go_ret2
      exact ⟨by rw [H.out.1, H.out.2]; rfl, rfl⟩
    · by_cases c2 : 1099511627776 < dm
      · have H : Hid (scE dm 2 up = 7 ∧ scV dm 2 up = 0) := Lib.hid (by simp [scE, scV, U.out, c2])
        go_enter Try.func14, Try.ntmps14
        go_wp2_with fail
        refine (unit_any _ _).mono ?_
        rintro e w' ⟨rfl, rfl⟩
        rw [U.out]
        go_wp2
        go_ret2
        exact ⟨by rw [H.out.1, H.out.2]; rfl, rfl⟩
      · have c3 : 0 ≤ dm := by omega
        have c4 : dm ≤ 1099511627776 := by omega
        cases up
        · by_cases c5 : 32766 < dm / 100
          · have H : Hid (scE dm 2 false = 7 ∧ scV dm 2 false = 0) := Lib.hid (by simp [scE, scV, scN, U.out, c1, c2, c5])
            go_enter Try.func14, Try.ntmps14
            go_wp2_with fail
            refine (unit_any _ _).mono ?_
            rintro e w' ⟨rfl, rfl⟩
            rw [U.out]
            go_wp2
            go_ret2
            exact ⟨by rw [H.out.1, H.out.2]; rfl, rfl⟩
          · have H : Hid (scE dm 2 false = 0 ∧ scV dm 2 false = dm / 100) := Lib.hid (by simp [scE, scV, scN, U.out, c1, c2, c5])
            go_enter Try.func14, Try.ntmps14
            go_wp2_with fail
            refine (unit_any _ _).mono ?_
            rintro e w' ⟨rfl, rfl⟩
            rw [U.out]
            go_wp2
            go_ret2
            exact ⟨by rw [H.out.1, H.out.2]; rfl, rfl⟩
        · by_cases c5 : 32766 < (dm + 99) / 100
          · have H : Hid (scE dm 2 true = 7 ∧ scV dm 2 true = 0) := Lib.hid (by simp [scE, scV, scN, U.out, c1, c2, c5])
            go_enter Try.func14, Try.ntmps14
            go_wp2_with fail
            refine (unit_any _ _).mono ?_
            rintro e w' ⟨rfl, rfl⟩
            rw [U.out]
            go_wp2
            go_ret2
            exact ⟨by rw [H.out.1, H.out.2]; rfl, rfl⟩
          · have H : Hid (scE dm 2 true = 0 ∧ scV dm 2 true = (dm + 99) / 100) := Lib.hid (by simp [scE, scV, scN, U.out, c1, c2, c5])
            go_enter Try.func14, Try.ntmps14
            go_wp2_with fail
            refine (unit_any _ _).mono ?_
            rintro e w' ⟨rfl, rfl⟩
            rw [U.out]
            go_wp2
            go_ret2
            exact ⟨by rw [H.out.1, H.out.2]; rfl, rfl⟩
  · have u0 := Lib.hid (unitS_other s0 s1 s2)
    clear s0 s1 s2
    have U := u0
    have H : Hid (scE dm s up = 1 ∧ scV dm s up = 0) := Lib.hid (by simp [scE, scV, u0.out])
    go_enter Try.func14, Try.ntmps14
    go_wp2_with fail
    refine (unit_any _ _).mono ?_
    rintro e w' ⟨rfl, rfl⟩
    rw [U.out]
    go_wp2
    go_ret2
    exact ⟨by rw [H.out.1, H.out.2]; rfl, rfl⟩

set_option maxHeartbeats 4000000 in
theorem rsc_any (dm s : Int) (up : Bool) (w : World) : Calls Try.prog 15 #[.int .i64 dm, .int .i64 s, .bool up] w fun e w' => e = .returned (.tuple #[.int .i64 (scV dm s up), .int .i64 (scE dm s up)]) ∧ w.alloc (.cells #[.int .i64 1, .int .i64 10, .int .i64 100] 3) = w' := by
  by_cases s0 : s = 0
  · subst s0
    have U : Hid (unitS 0 = 1) := Lib.hid rfl
    by_cases c1 : dm < 0
    · have H : Hid (scE dm 0 up = 7 ∧ scV dm 0 up = 0) := Lib.hid (by simp [scE, scV, U.out, c1])
      go_enter Try.func15, Try.ntmps15
      go_wp2_with fail
      refine (runit_any _ _).mono ?_
      rintro e w' ⟨rfl, rfl⟩
      rw [U.out]
      go_wp2
      go_ret2
      exact ⟨by rw [H.out.1, H.out.2]; rfl, rfl⟩
    · by_cases c2 : 1099511627776 < dm
      · have H : Hid (scE dm 0 up = 7 ∧ scV dm 0 up = 0) := Lib.hid (by simp [scE, scV, U.out, c2])
        go_enter Try.func15, Try.ntmps15
        go_wp2_with fail
        refine (runit_any _ _).mono ?_
        rintro e w' ⟨rfl, rfl⟩
        rw [U.out]
        go_wp2
        go_ret2
        exact ⟨by rw [H.out.1, H.out.2]; rfl, rfl⟩
      · have c3 : 0 ≤ dm := by omega
        have c4 : dm ≤ 1099511627776 := by omega
        cases up
        · by_cases c5 : 32766 < dm
          · have H : Hid (scE dm 0 false = 7 ∧ scV dm 0 false = 0) := Lib.hid (by simp [scE, scV, scN, U.out, c1, c2, c5])
            go_enter Try.func15, Try.ntmps15
            go_wp2_with fail
            refine (runit_any _ _).mono ?_
            rintro e w' ⟨rfl, rfl⟩
            rw [U.out]
            go_wp2
            go_ret2
            exact ⟨by rw [H.out.1, H.out.2]; rfl, rfl⟩
          · have H : Hid (scE dm 0 false = 0 ∧ scV dm 0 false = dm) := Lib.hid (by simp [scE, scV, scN, U.out, c1, c2, c5])
            go_enter Try.func15, Try.ntmps15
            go_wp2_with fail
            refine (runit_any _ _).mono ?_
            rintro e w' ⟨rfl, rfl⟩
            rw [U.out]
            go_wp2
            go_ret2
            exact ⟨by rw [H.out.1, H.out.2]; rfl, rfl⟩
        · by_cases c5 : 32766 < dm
          · have H : Hid (scE dm 0 true = 7 ∧ scV dm 0 true = 0) := Lib.hid (by simp [scE, scV, scN, U.out, c1, c2, c5])
            go_enter Try.func15, Try.ntmps15
            go_wp2_with fail
            refine (runit_any _ _).mono ?_
            rintro e w' ⟨rfl, rfl⟩
            rw [U.out]
            go_wp2
            go_ret2
            exact ⟨by rw [H.out.1, H.out.2]; rfl, rfl⟩
          · have H : Hid (scE dm 0 true = 0 ∧ scV dm 0 true = dm) := Lib.hid (by simp [scE, scV, scN, U.out, c1, c2, c5])
            go_enter Try.func15, Try.ntmps15
            go_wp2_with fail
            refine (runit_any _ _).mono ?_
            rintro e w' ⟨rfl, rfl⟩
            rw [U.out]
            go_wp2
            go_ret2
            exact ⟨by rw [H.out.1, H.out.2]; rfl, rfl⟩
  by_cases s1 : s = 1
  · subst s1
    have U : Hid (unitS 1 = 10) := Lib.hid rfl
    by_cases c1 : dm < 0
    · have H : Hid (scE dm 1 up = 7 ∧ scV dm 1 up = 0) := Lib.hid (by simp [scE, scV, U.out, c1])
      go_enter Try.func15, Try.ntmps15
      go_wp2_with fail
      refine (runit_any _ _).mono ?_
      rintro e w' ⟨rfl, rfl⟩
      rw [U.out]
      go_wp2
      go_ret2
      exact ⟨by rw [H.out.1, H.out.2]; rfl, rfl⟩
    · by_cases c2 : 1099511627776 < dm
      · have H : Hid (scE dm 1 up = 7 ∧ scV dm 1 up = 0) := Lib.hid (by simp [scE, scV, U.out, c2])
        go_enter Try.func15, Try.ntmps15
        go_wp2_with fail
        refine (runit_any _ _).mono ?_
        rintro e w' ⟨rfl, rfl⟩
        rw [U.out]
        go_wp2
        go_ret2
        exact ⟨by rw [H.out.1, H.out.2]; rfl, rfl⟩
      · have c3 : 0 ≤ dm := by omega
        have c4 : dm ≤ 1099511627776 := by omega
        cases up
        · by_cases c5 : 32766 < dm / 10
          · have H : Hid (scE dm 1 false = 7 ∧ scV dm 1 false = 0) := Lib.hid (by simp [scE, scV, scN, U.out, c1, c2, c5])
            go_enter Try.func15, Try.ntmps15
            go_wp2_with fail
            refine (runit_any _ _).mono ?_
            rintro e w' ⟨rfl, rfl⟩
            rw [U.out]
            go_wp2
            go_ret2
            exact ⟨by rw [H.out.1, H.out.2]; rfl, rfl⟩
          · have H : Hid (scE dm 1 false = 0 ∧ scV dm 1 false = dm / 10) := Lib.hid (by simp [scE, scV, scN, U.out, c1, c2, c5])
            go_enter Try.func15, Try.ntmps15
            go_wp2_with fail
            refine (runit_any _ _).mono ?_
            rintro e w' ⟨rfl, rfl⟩
            rw [U.out]
            go_wp2
            go_ret2
            exact ⟨by rw [H.out.1, H.out.2]; rfl, rfl⟩
        · by_cases c6 : dm / 10 * 10 < dm
          · have c7 : (dm + 9) / 10 = dm / 10 + 1 := by omega
            have c7 := Lib.hid c7
            by_cases c5 : 32766 < dm / 10 + 1
            · have H : Hid (scE dm 1 true = 7 ∧ scV dm 1 true = 0) := Lib.hid (by simp [scE, scV, scN, U.out, c1, c2, c5, c7.out])
              go_enter Try.func15, Try.ntmps15
              go_wp2_with fail
              refine (runit_any _ _).mono ?_
              rintro e w' ⟨rfl, rfl⟩
              rw [U.out]
              go_wp2
              go_ret2
              exact ⟨by rw [H.out.1, H.out.2]; rfl, rfl⟩
            · have H : Hid (scE dm 1 true = 0 ∧ scV dm 1 true = dm / 10 + 1) := Lib.hid (by simp [scE, scV, scN, U.out, c1, c2, c5, c7.out])
              go_enter Try.func15, Try.ntmps15
              go_wp2_with fail
              refine (runit_any _ _).mono ?_
              rintro e w' ⟨rfl, rfl⟩
              rw [U.out]
              go_wp2
              go_ret2
              exact ⟨by rw [H.out.1, H.out.2]; rfl, rfl⟩
          · have c7 : (dm + 9) / 10 = dm / 10 := by omega
            have c7 := Lib.hid c7
            by_cases c5 : 32766 < dm / 10
            · have H : Hid (scE dm 1 true = 7 ∧ scV dm 1 true = 0) := Lib.hid (by simp [scE, scV, scN, U.out, c1, c2, c5, c7.out])
              go_enter Try.func15, Try.ntmps15
              go_wp2_with fail
              refine (runit_any _ _).mono ?_
              rintro e w' ⟨rfl, rfl⟩
              rw [U.out]
              go_wp2
              go_ret2
              exact ⟨by rw [H.out.1, H.out.2]; rfl, rfl⟩
            · have H : Hid (scE dm 1 true = 0 ∧ scV dm 1 true = dm / 10) := Lib.hid (by simp [scE, scV, scN, U.out, c1, c2, c5, c7.out])
              go_enter Try.func15, Try.ntmps15
              go_wp2_with fail
              refine (runit_any _ _).mono ?_
              rintro e w' ⟨rfl, rfl⟩
              rw [U.out]
              go_wp2
              go_ret2
              exact ⟨by rw [H.out.1, H.out.2]; rfl, rfl⟩
  by_cases s2 : s = 2
  · subst s2
    have U : Hid (unitS 2 = 100) := Lib.hid rfl
    by_cases c1 : dm < 0
    · have H : Hid (scE dm 2 up = 7 ∧ scV dm 2 up = 0) := Lib.hid (by simp [scE, scV, U.out, c1])
      go_enter Try.func15, Try.ntmps15
      go_wp2_with fail
      refine (runit_any _ _).mono ?_
      rintro e w' ⟨rfl, rfl⟩
      rw [U.out]
      go_wp2
      go_ret2
      exact ⟨by rw [H.out.1, H.out.2]; rfl, rfl⟩
    · by_cases c2 : 1099511627776 < dm
      · have H : Hid (scE dm 2 up = 7 ∧ scV dm 2 up = 0) := Lib.hid (by simp [scE, scV, U.out, c2])
        go_enter Try.func15, Try.ntmps15
        go_wp2_with fail
        refine (runit_any _ _).mono ?_
        rintro e w' ⟨rfl, rfl⟩
        rw [U.out]
        go_wp2
        go_ret2
        exact ⟨by rw [H.out.1, H.out.2]; rfl, rfl⟩
      · have c3 : 0 ≤ dm := by omega
        have c4 : dm ≤ 1099511627776 := by omega
        cases up
        · by_cases c5 : 32766 < dm / 100
          · have H : Hid (scE dm 2 false = 7 ∧ scV dm 2 false = 0) := Lib.hid (by simp [scE, scV, scN, U.out, c1, c2, c5])
            go_enter Try.func15, Try.ntmps15
            go_wp2_with fail
            refine (runit_any _ _).mono ?_
            rintro e w' ⟨rfl, rfl⟩
            rw [U.out]
            go_wp2
            go_ret2
            exact ⟨by rw [H.out.1, H.out.2]; rfl, rfl⟩
          · have H : Hid (scE dm 2 false = 0 ∧ scV dm 2 false = dm / 100) := Lib.hid (by simp [scE, scV, scN, U.out, c1, c2, c5])
            go_enter Try.func15, Try.ntmps15
            go_wp2_with fail
            refine (runit_any _ _).mono ?_
            rintro e w' ⟨rfl, rfl⟩
            rw [U.out]
            go_wp2
            go_ret2
            exact ⟨by rw [H.out.1, H.out.2]; rfl, rfl⟩
        · by_cases c6 : dm / 100 * 100 < dm
          · have c7 : (dm + 99) / 100 = dm / 100 + 1 := by omega
            have c7 := Lib.hid c7
            by_cases c5 : 32766 < dm / 100 + 1
            · have H : Hid (scE dm 2 true = 7 ∧ scV dm 2 true = 0) := Lib.hid (by simp [scE, scV, scN, U.out, c1, c2, c5, c7.out])
              go_enter Try.func15, Try.ntmps15
              go_wp2_with fail
              refine (runit_any _ _).mono ?_
              rintro e w' ⟨rfl, rfl⟩
              rw [U.out]
              go_wp2
              go_ret2
              exact ⟨by rw [H.out.1, H.out.2]; rfl, rfl⟩
            · have H : Hid (scE dm 2 true = 0 ∧ scV dm 2 true = dm / 100 + 1) := Lib.hid (by simp [scE, scV, scN, U.out, c1, c2, c5, c7.out])
              go_enter Try.func15, Try.ntmps15
              go_wp2_with fail
              refine (runit_any _ _).mono ?_
              rintro e w' ⟨rfl, rfl⟩
              rw [U.out]
              go_wp2
              go_ret2
              exact ⟨by rw [H.out.1, H.out.2]; rfl, rfl⟩
          · have c7 : (dm + 99) / 100 = dm / 100 := by omega
            have c7 := Lib.hid c7
            by_cases c5 : 32766 < dm / 100
            · have H : Hid (scE dm 2 true = 7 ∧ scV dm 2 true = 0) := Lib.hid (by simp [scE, scV, scN, U.out, c1, c2, c5, c7.out])
              go_enter Try.func15, Try.ntmps15
              go_wp2_with fail
              refine (runit_any _ _).mono ?_
              rintro e w' ⟨rfl, rfl⟩
              rw [U.out]
              go_wp2
              go_ret2
              exact ⟨by rw [H.out.1, H.out.2]; rfl, rfl⟩
            · have H : Hid (scE dm 2 true = 0 ∧ scV dm 2 true = dm / 100) := Lib.hid (by simp [scE, scV, scN, U.out, c1, c2, c5, c7.out])
              go_enter Try.func15, Try.ntmps15
              go_wp2_with fail
              refine (runit_any _ _).mono ?_
              rintro e w' ⟨rfl, rfl⟩
              rw [U.out]
              go_wp2
              go_ret2
              exact ⟨by rw [H.out.1, H.out.2]; rfl, rfl⟩
  · have u0 := Lib.hid (unitS_other s0 s1 s2)
    clear s0 s1 s2
    have U := u0
    have H : Hid (scE dm s up = 1 ∧ scV dm s up = 0) := Lib.hid (by simp [scE, scV, u0.out])
    go_enter Try.func15, Try.ntmps15
    go_wp2_with fail
    refine (runit_any _ _).mono ?_
    rintro e w' ⟨rfl, rfl⟩
    rw [U.out]
    go_wp2
    go_ret2
    exact ⟨by rw [H.out.1, H.out.2]; rfl, rfl⟩

end Go.Proofs.Ytkeckenmknfipaa
