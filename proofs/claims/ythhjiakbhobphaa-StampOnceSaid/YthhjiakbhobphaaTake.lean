/- A trial. -/
import Derived.Test.YthhjiakbhobphaaChecked
import Derived.WalkKit
import Derived.WalkLawsBesides
import Derived.WalkSpells
import Derived.Deep.QuietTactic
import Derived.BigQuiet
import Derived.Outline
import Derived.Lib.Hide
namespace Go.Proofs.Ythhjiakbhobphaa
open Go.RowKit

def isTime (n : Int) : Bool := decide (0 ≤ n ∧ n ≤ 4294967294)
theorem isTime_t {n : Int} : isTime n = true ↔ 0 ≤ n ∧ n ≤ 4294967294 := by simp [isTime]
theorem isTime_f {n : Int} : isTime n = false ↔ n < 0 ∨ 4294967294 < n := by simp [isTime]; omega

theorem time_any (n : Int) (w : World) : Calls Try.prog 19 #[.int .i64 n] w fun e w' => e = .returned (.bool (isTime n)) ∧ w = w' := by
  by_cases h : 0 ≤ n
  · by_cases h2 : n ≤ 4294967294
    · have H : Hid (isTime n = true) := Lib.hid (isTime_t.2 ⟨h, h2⟩)
      go_enter Try.func19, Try.ntmps19
      go_wp2
      go_ret
      exact ⟨by rw [H.out]; rfl, rfl⟩
    · have H : Hid (isTime n = false) := Lib.hid (isTime_f.2 (by omega))
      go_enter Try.func19, Try.ntmps19
      go_wp2
      go_ret
      exact ⟨by rw [H.out]; rfl, rfl⟩
  · have H : Hid (isTime n = false) := Lib.hid (isTime_f.2 (by omega))
    go_enter Try.func19, Try.ntmps19
    go_wp2
    go_ret
    exact ⟨by rw [H.out]; rfl, rfl⟩

theorem rtime_any (n : Int) (w : World) : Calls Try.prog 21 #[.int .i64 n] w fun e w' => e = .returned (.bool (isTime n)) ∧ w = w' := by
  by_cases h : 0 ≤ n
  · by_cases h2 : n < 4294967295
    · have H : Hid (isTime n = true) := Lib.hid (isTime_t.2 ⟨h, by omega⟩)
      go_enter Try.func21, Try.ntmps21
      go_wp2
      go_ret
      exact ⟨by rw [H.out]; rfl, rfl⟩
    · have H : Hid (isTime n = false) := Lib.hid (isTime_f.2 (by omega))
      go_enter Try.func21, Try.ntmps21
      go_wp2
      go_ret
      exact ⟨by rw [H.out]; rfl, rfl⟩
  · have H : Hid (isTime n = false) := Lib.hid (isTime_f.2 (by omega))
    go_enter Try.func21, Try.ntmps21
    go_wp2
    go_ret
    exact ⟨by rw [H.out]; rfl, rfl⟩

def mayB (L A B : Int) : Bool := isTime A && isTime B && (L == -1 || isTime L)
theorem ret_bool {a b : Bool} (h : a = b) : Ending.returned (.bool a) = .returned (.bool b) := by rw [h]

theorem may_any (L A B : Int) (F : Bool) (w : World) : Calls Try.prog 11 #[.agg #[.int .i64 L, .int .i64 A, .int .i64 B, .bool F]] w fun e w' => e = .returned (.bool (mayB L A B)) ∧ w.alloc (.cells #[.int .i64 L, .int .i64 A, .int .i64 B, .bool F] 23) = w' := by
  have HM : Hid (mayB L A B = (isTime A && isTime B && (L == -1 || isTime L))) := Lib.hid rfl
  by_cases hl : L = -1
  · subst hl
    go_enter Try.func11, Try.ntmps11
    go_wp2_with (go_at_call 19; refine (time_any _ _).mono ?_; rintro e w' ⟨rfl, rfl⟩)
    all_goals
      go_ret
      exact ⟨ret_bool (by rw [HM.out]; simp [*]), rfl⟩
  · have hl' : (L == -1) = false := by simpa using hl
    clear hl
    go_enter Try.func11, Try.ntmps11
    go_wp2_with (go_at_call 19; refine (time_any _ _).mono ?_; rintro e w' ⟨rfl, rfl⟩)
    all_goals
      go_ret
      exact ⟨ret_bool (by rw [HM.out]; simp [*]), rfl⟩

theorem rmay_any (L A B : Int) (F : Bool) (w : World) : Calls Try.prog 12 #[.agg #[.int .i64 L, .int .i64 A, .int .i64 B, .bool F]] w fun e w' => e = .returned (.bool (mayB L A B)) ∧ w.alloc (.cells #[.int .i64 L, .int .i64 A, .int .i64 B, .bool F] 23) = w' := by
  have HM : Hid (mayB L A B = (isTime A && isTime B && (L == -1 || isTime L))) := Lib.hid rfl
  by_cases hl : L = -1
  · subst hl
    go_enter Try.func12, Try.ntmps12
    go_wp2_with (go_at_call 21; refine (rtime_any _ _).mono ?_; rintro e w' ⟨rfl, rfl⟩)
    all_goals
      go_ret
      exact ⟨ret_bool (by rw [HM.out]; simp [*]), rfl⟩
  · have hl' : (L == -1) = false := by simpa using hl
    clear hl
    go_enter Try.func12, Try.ntmps12
    go_wp2_with (go_at_call 21; refine (rtime_any _ _).mono ?_; rintro e w' ⟨rfl, rfl⟩)
    all_goals
      go_ret
      exact ⟨ret_bool (by rw [HM.out]; simp [*]), rfl⟩

theorem may_bd {L A B : Int} (hm : mayB L A B = true) : 0 ≤ A ∧ A ≤ 4294967294 ∧ 0 ≤ B ∧ B ≤ 4294967294 ∧ -1 ≤ L ∧ L ≤ 4294967294 := by
  have ⟨a1, a2, a3⟩ : isTime A = true ∧ isTime B = true ∧ (L = -1 ∨ isTime L = true) := by simpa [mayB, and_assoc] using hm
  have b1 := isTime_t.1 a1; have b2 := isTime_t.1 a2
  have b3 : -1 ≤ L ∧ L ≤ 4294967294 := by
    rcases a3 with a3 | a3
    · omega
    · have := isTime_t.1 a3; omega
  omega

def takeB (L A B t now : Int) (F : Bool) : Bool := decide (now - B ≤ t) && decide (t ≤ now + A) && (F || decide (L < t))
def stV (L A B : Int) (F : Bool) : Value := .agg #[.int .i64 L, .int .i64 A, .int .i64 B, .bool F]

set_option maxHeartbeats 1000000 in
theorem take_arg (L A B t now : Int) (F : Bool) (w : World) (hm : mayB L A B = false ∨ isTime t = false ∨ isTime now = false) :
   Calls Try.prog 9 #[.agg #[.int .i64 L, .int .i64 A, .int .i64 B, .bool F], .int .i64 t, .int .i64 now] w fun e w' => e = .returned (.tuple #[.agg #[.int .i64 0, .int .i64 0, .int .i64 0, .bool false], .int .i64 1]) ∧ Below w.heap.size w w' := by
  by_cases h1 : mayB L A B = true
  · by_cases h2 : isTime t = true
    · have h3 : isTime now = false := by simp_all
      clear hm
      go_enter Try.func9, Try.ntmps9
      go_wp2_with (first | (go_at_call 19; refine (time_any _ _).mono ?_; rintro e w' ⟨rfl, rfl⟩) | (go_at_call 11; refine (may_any _ _ _ _ _).mono ?_; rintro e w' ⟨rfl, rfl⟩) | go_in)
      refine bodyPost_ret (v := .tuple #[.agg #[.int .i64 0, .int .i64 0, .int .i64 0, .bool false], .int .i64 1]) (by simp [results, Try.results9, go_sem]) rfl ⟨rfl, ?_⟩
      repeat (first | exact Below.refl _ _ | refine Below.setCell ?_ (by simp; try omega) _ | refine Below.alloc ?_ (by simp; try omega) _ | refine Below.drew ?_)
    · have h3 : isTime t = false := by simp_all
      clear hm h2
      go_enter Try.func9, Try.ntmps9
      go_wp2_with (first | (go_at_call 19; refine (time_any _ _).mono ?_; rintro e w' ⟨rfl, rfl⟩) | (go_at_call 11; refine (may_any _ _ _ _ _).mono ?_; rintro e w' ⟨rfl, rfl⟩) | go_in)
      all_goals
        refine bodyPost_ret (v := .tuple #[.agg #[.int .i64 0, .int .i64 0, .int .i64 0, .bool false], .int .i64 1]) (by simp [results, Try.results9, go_sem]) rfl ⟨rfl, ?_⟩
        repeat (first | exact Below.refl _ _ | refine Below.setCell ?_ (by simp; try omega) _ | refine Below.alloc ?_ (by simp; try omega) _ | refine Below.drew ?_)
  · have h3 : mayB L A B = false := by simp_all
    clear hm h1
    go_enter Try.func9, Try.ntmps9
    go_wp2_with (first | (go_at_call 19; refine (time_any _ _).mono ?_; rintro e w' ⟨rfl, rfl⟩) | (go_at_call 11; refine (may_any _ _ _ _ _).mono ?_; rintro e w' ⟨rfl, rfl⟩) | go_in)
    all_goals
      refine bodyPost_ret (v := .tuple #[.agg #[.int .i64 0, .int .i64 0, .int .i64 0, .bool false], .int .i64 1]) (by simp [results, Try.results9, go_sem]) rfl ⟨rfl, ?_⟩
      repeat (first | exact Below.refl _ _ | refine Below.setCell ?_ (by simp; try omega) _ | refine Below.alloc ?_ (by simp; try omega) _ | refine Below.drew ?_)

set_option maxHeartbeats 1000000 in
theorem take_ok (L A B t now : Int) (F : Bool) (w : World) (hm : mayB L A B = true) (ht : isTime t = true) (hn : isTime now = true) (hk : takeB L A B t now F = true) :
   Calls Try.prog 9 #[.agg #[.int .i64 L, .int .i64 A, .int .i64 B, .bool F], .int .i64 t, .int .i64 now] w fun e w' => e = .returned (.tuple #[.agg #[.int .i64 t, .int .i64 A, .int .i64 B, .bool false], .int .i64 0]) ∧ Below w.heap.size w w' := by
  obtain ⟨b1, b2, b3, b4, b5, b6⟩ := may_bd hm
  obtain ⟨b7, b8⟩ := isTime_t.1 ht
  obtain ⟨b9, b10⟩ := isTime_t.1 hn
  cases F
  · obtain ⟨⟨h1, h2⟩, h3⟩ : (now - B ≤ t ∧ t ≤ now + A) ∧ L < t := by simpa [takeB] using hk
    clear hk
    · go_enter Try.func9, Try.ntmps9
      go_wp2_with (first | (go_at_call 19; refine (time_any _ _).mono ?_; rintro e w' ⟨rfl, rfl⟩) | (go_at_call 11; refine (may_any _ _ _ _ _).mono ?_; rintro e w' ⟨rfl, rfl⟩) | go_in)
      all_goals
        refine bodyPost_ret (v := .tuple #[.agg #[.int .i64 t, .int .i64 A, .int .i64 B, .bool false], .int .i64 0]) (by simp [results, Try.results9, go_sem]) rfl ⟨rfl, ?_⟩
        repeat (first | exact Below.refl _ _ | refine Below.setCell ?_ (by simp; try omega) _ | refine Below.alloc ?_ (by simp; try omega) _ | refine Below.drew ?_)
  · obtain ⟨h1, h2⟩ : now - B ≤ t ∧ t ≤ now + A := by simpa [takeB] using hk
    clear hk
    · go_enter Try.func9, Try.ntmps9
      go_wp2_with (first | (go_at_call 19; refine (time_any _ _).mono ?_; rintro e w' ⟨rfl, rfl⟩) | (go_at_call 11; refine (may_any _ _ _ _ _).mono ?_; rintro e w' ⟨rfl, rfl⟩) | go_in)
      all_goals
        refine bodyPost_ret (v := .tuple #[.agg #[.int .i64 t, .int .i64 A, .int .i64 B, .bool false], .int .i64 0]) (by simp [results, Try.results9, go_sem]) rfl ⟨rfl, ?_⟩
        repeat (first | exact Below.refl _ _ | refine Below.setCell ?_ (by simp; try omega) _ | refine Below.alloc ?_ (by simp; try omega) _ | refine Below.drew ?_)

set_option maxHeartbeats 1000000 in
theorem take_stale (L A B t now : Int) (F : Bool) (w : World) (hm : mayB L A B = true) (ht : isTime t = true) (hn : isTime now = true) (hk : takeB L A B t now F = false) :
   Calls Try.prog 9 #[.agg #[.int .i64 L, .int .i64 A, .int .i64 B, .bool F], .int .i64 t, .int .i64 now] w fun e w' => e = .returned (.tuple #[.agg #[.int .i64 0, .int .i64 0, .int .i64 0, .bool false], .int .i64 110]) ∧ Below w.heap.size w w' := by
  obtain ⟨b1, b2, b3, b4, b5, b6⟩ := may_bd hm
  obtain ⟨b7, b8⟩ := isTime_t.1 ht
  obtain ⟨b9, b10⟩ := isTime_t.1 hn
  by_cases h1 : now - B ≤ t
  · by_cases h2 : t ≤ now + A
    · obtain ⟨rfl, h3⟩ : F = false ∧ t ≤ L := by simp [takeB, h1, h2] at hk; simpa using hk
      clear hk
      go_enter Try.func9, Try.ntmps9
      go_wp2_with (first | (go_at_call 19; refine (time_any _ _).mono ?_; rintro e w' ⟨rfl, rfl⟩) | (go_at_call 11; refine (may_any _ _ _ _ _).mono ?_; rintro e w' ⟨rfl, rfl⟩) | go_in)
      all_goals
        refine bodyPost_ret (v := .tuple #[.agg #[.int .i64 0, .int .i64 0, .int .i64 0, .bool false], .int .i64 110]) (by simp [results, Try.results9, go_sem]) rfl ⟨rfl, ?_⟩
        repeat (first | exact Below.refl _ _ | refine Below.setCell ?_ (by simp; try omega) _ | refine Below.alloc ?_ (by simp; try omega) _ | refine Below.drew ?_)
    · clear hk
      go_enter Try.func9, Try.ntmps9
      go_wp2_with (first | (go_at_call 19; refine (time_any _ _).mono ?_; rintro e w' ⟨rfl, rfl⟩) | (go_at_call 11; refine (may_any _ _ _ _ _).mono ?_; rintro e w' ⟨rfl, rfl⟩) | go_in)
      all_goals
        refine bodyPost_ret (v := .tuple #[.agg #[.int .i64 0, .int .i64 0, .int .i64 0, .bool false], .int .i64 110]) (by simp [results, Try.results9, go_sem]) rfl ⟨rfl, ?_⟩
        repeat (first | exact Below.refl _ _ | refine Below.setCell ?_ (by simp; try omega) _ | refine Below.alloc ?_ (by simp; try omega) _ | refine Below.drew ?_)
  · clear hk
    · go_enter Try.func9, Try.ntmps9
      go_wp2_with (first | (go_at_call 19; refine (time_any _ _).mono ?_; rintro e w' ⟨rfl, rfl⟩) | (go_at_call 11; refine (may_any _ _ _ _ _).mono ?_; rintro e w' ⟨rfl, rfl⟩) | go_in)
      all_goals
        refine bodyPost_ret (v := .tuple #[.agg #[.int .i64 0, .int .i64 0, .int .i64 0, .bool false], .int .i64 110]) (by simp [results, Try.results9, go_sem]) rfl ⟨rfl, ?_⟩
        repeat (first | exact Below.refl _ _ | refine Below.setCell ?_ (by simp; try omega) _ | refine Below.alloc ?_ (by simp; try omega) _ | refine Below.drew ?_)

set_option maxHeartbeats 1000000 in
theorem rtake_arg (L A B t now : Int) (F : Bool) (w : World) (hm : mayB L A B = false ∨ isTime t = false ∨ isTime now = false) :
   Calls Try.prog 10 #[.agg #[.int .i64 L, .int .i64 A, .int .i64 B, .bool F], .int .i64 t, .int .i64 now] w fun e w' => e = .returned (.tuple #[.agg #[.int .i64 0, .int .i64 0, .int .i64 0, .bool false], .int .i64 1]) ∧ Below w.heap.size w w' := by
  by_cases h1 : mayB L A B = true
  · by_cases h2 : isTime t = true
    · have h3 : isTime now = false := by simp_all
      clear hm
      go_enter Try.func10, Try.ntmps10
      go_wp2_with (first | (go_at_call 21; refine (rtime_any _ _).mono ?_; rintro e w' ⟨rfl, rfl⟩) | (go_at_call 12; refine (rmay_any _ _ _ _ _).mono ?_; rintro e w' ⟨rfl, rfl⟩) | go_in)
      refine bodyPost_ret (v := .tuple #[.agg #[.int .i64 0, .int .i64 0, .int .i64 0, .bool false], .int .i64 1]) (by simp [results, Try.results10, go_sem]) rfl ⟨rfl, ?_⟩
      repeat (first | exact Below.refl _ _ | refine Below.setCell ?_ (by simp; try omega) _ | refine Below.alloc ?_ (by simp; try omega) _ | refine Below.drew ?_)
    · have h3 : isTime t = false := by simp_all
      clear hm h2
      go_enter Try.func10, Try.ntmps10
      go_wp2_with (first | (go_at_call 21; refine (rtime_any _ _).mono ?_; rintro e w' ⟨rfl, rfl⟩) | (go_at_call 12; refine (rmay_any _ _ _ _ _).mono ?_; rintro e w' ⟨rfl, rfl⟩) | go_in)
      all_goals
        refine bodyPost_ret (v := .tuple #[.agg #[.int .i64 0, .int .i64 0, .int .i64 0, .bool false], .int .i64 1]) (by simp [results, Try.results10, go_sem]) rfl ⟨rfl, ?_⟩
        repeat (first | exact Below.refl _ _ | refine Below.setCell ?_ (by simp; try omega) _ | refine Below.alloc ?_ (by simp; try omega) _ | refine Below.drew ?_)
  · have h3 : mayB L A B = false := by simp_all
    clear hm h1
    go_enter Try.func10, Try.ntmps10
    go_wp2_with (first | (go_at_call 21; refine (rtime_any _ _).mono ?_; rintro e w' ⟨rfl, rfl⟩) | (go_at_call 12; refine (rmay_any _ _ _ _ _).mono ?_; rintro e w' ⟨rfl, rfl⟩) | go_in)
    all_goals
      refine bodyPost_ret (v := .tuple #[.agg #[.int .i64 0, .int .i64 0, .int .i64 0, .bool false], .int .i64 1]) (by simp [results, Try.results10, go_sem]) rfl ⟨rfl, ?_⟩
      repeat (first | exact Below.refl _ _ | refine Below.setCell ?_ (by simp; try omega) _ | refine Below.alloc ?_ (by simp; try omega) _ | refine Below.drew ?_)

set_option maxHeartbeats 1000000 in
theorem rtake_ok (L A B t now : Int) (F : Bool) (w : World) (hm : mayB L A B = true) (ht : isTime t = true) (hn : isTime now = true) (hk : takeB L A B t now F = true) :
   Calls Try.prog 10 #[.agg #[.int .i64 L, .int .i64 A, .int .i64 B, .bool F], .int .i64 t, .int .i64 now] w fun e w' => e = .returned (.tuple #[.agg #[.int .i64 t, .int .i64 A, .int .i64 B, .bool false], .int .i64 0]) ∧ Below w.heap.size w w' := by
  obtain ⟨b1, b2, b3, b4, b5, b6⟩ := may_bd hm
  obtain ⟨b7, b8⟩ := isTime_t.1 ht
  obtain ⟨b9, b10⟩ := isTime_t.1 hn
  cases F
  · obtain ⟨⟨h1, h2⟩, h3⟩ : (now - B ≤ t ∧ t ≤ now + A) ∧ L < t := by simpa [takeB] using hk
    clear hk
    · go_enter Try.func10, Try.ntmps10
      go_wp2_with (first | (go_at_call 21; refine (rtime_any _ _).mono ?_; rintro e w' ⟨rfl, rfl⟩) | (go_at_call 12; refine (rmay_any _ _ _ _ _).mono ?_; rintro e w' ⟨rfl, rfl⟩) | go_in)
      all_goals
        refine bodyPost_ret (v := .tuple #[.agg #[.int .i64 t, .int .i64 A, .int .i64 B, .bool false], .int .i64 0]) (by simp [results, Try.results10, go_sem]) rfl ⟨rfl, ?_⟩
        repeat (first | exact Below.refl _ _ | refine Below.setCell ?_ (by simp; try omega) _ | refine Below.alloc ?_ (by simp; try omega) _ | refine Below.drew ?_)
  · obtain ⟨h1, h2⟩ : now - B ≤ t ∧ t ≤ now + A := by simpa [takeB] using hk
    clear hk
    · go_enter Try.func10, Try.ntmps10
      go_wp2_with (first | (go_at_call 21; refine (rtime_any _ _).mono ?_; rintro e w' ⟨rfl, rfl⟩) | (go_at_call 12; refine (rmay_any _ _ _ _ _).mono ?_; rintro e w' ⟨rfl, rfl⟩) | go_in)
      all_goals
        refine bodyPost_ret (v := .tuple #[.agg #[.int .i64 t, .int .i64 A, .int .i64 B, .bool false], .int .i64 0]) (by simp [results, Try.results10, go_sem]) rfl ⟨rfl, ?_⟩
        repeat (first | exact Below.refl _ _ | refine Below.setCell ?_ (by simp; try omega) _ | refine Below.alloc ?_ (by simp; try omega) _ | refine Below.drew ?_)

set_option maxHeartbeats 1000000 in
theorem rtake_stale (L A B t now : Int) (F : Bool) (w : World) (hm : mayB L A B = true) (ht : isTime t = true) (hn : isTime now = true) (hk : takeB L A B t now F = false) :
   Calls Try.prog 10 #[.agg #[.int .i64 L, .int .i64 A, .int .i64 B, .bool F], .int .i64 t, .int .i64 now] w fun e w' => e = .returned (.tuple #[.agg #[.int .i64 0, .int .i64 0, .int .i64 0, .bool false], .int .i64 110]) ∧ Below w.heap.size w w' := by
  obtain ⟨b1, b2, b3, b4, b5, b6⟩ := may_bd hm
  obtain ⟨b7, b8⟩ := isTime_t.1 ht
  obtain ⟨b9, b10⟩ := isTime_t.1 hn
  by_cases h1 : now - B ≤ t
  · by_cases h2 : t ≤ now + A
    · obtain ⟨rfl, h3⟩ : F = false ∧ t ≤ L := by simp [takeB, h1, h2] at hk; simpa using hk
      clear hk
      go_enter Try.func10, Try.ntmps10
      go_wp2_with (first | (go_at_call 21; refine (rtime_any _ _).mono ?_; rintro e w' ⟨rfl, rfl⟩) | (go_at_call 12; refine (rmay_any _ _ _ _ _).mono ?_; rintro e w' ⟨rfl, rfl⟩) | go_in)
      all_goals
        refine bodyPost_ret (v := .tuple #[.agg #[.int .i64 0, .int .i64 0, .int .i64 0, .bool false], .int .i64 110]) (by simp [results, Try.results10, go_sem]) rfl ⟨rfl, ?_⟩
        repeat (first | exact Below.refl _ _ | refine Below.setCell ?_ (by simp; try omega) _ | refine Below.alloc ?_ (by simp; try omega) _ | refine Below.drew ?_)
    · clear hk
      go_enter Try.func10, Try.ntmps10
      go_wp2_with (first | (go_at_call 21; refine (rtime_any _ _).mono ?_; rintro e w' ⟨rfl, rfl⟩) | (go_at_call 12; refine (rmay_any _ _ _ _ _).mono ?_; rintro e w' ⟨rfl, rfl⟩) | go_in)
      all_goals
        refine bodyPost_ret (v := .tuple #[.agg #[.int .i64 0, .int .i64 0, .int .i64 0, .bool false], .int .i64 110]) (by simp [results, Try.results10, go_sem]) rfl ⟨rfl, ?_⟩
        repeat (first | exact Below.refl _ _ | refine Below.setCell ?_ (by simp; try omega) _ | refine Below.alloc ?_ (by simp; try omega) _ | refine Below.drew ?_)
  · clear hk
    · go_enter Try.func10, Try.ntmps10
      go_wp2_with (first | (go_at_call 21; refine (rtime_any _ _).mono ?_; rintro e w' ⟨rfl, rfl⟩) | (go_at_call 12; refine (rmay_any _ _ _ _ _).mono ?_; rintro e w' ⟨rfl, rfl⟩) | go_in)
      all_goals
        refine bodyPost_ret (v := .tuple #[.agg #[.int .i64 0, .int .i64 0, .int .i64 0, .bool false], .int .i64 110]) (by simp [results, Try.results10, go_sem]) rfl ⟨rfl, ?_⟩
        repeat (first | exact Below.refl _ _ | refine Below.setCell ?_ (by simp; try omega) _ | refine Below.alloc ?_ (by simp; try omega) _ | refine Below.drew ?_)

end Go.Proofs.Ythhjiakbhobphaa
