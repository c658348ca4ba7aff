/- stamp.Take and stamp.Later, each by one contract for every input: what Take answers as functions of the stamp and of the two times. -/
import Derived.Test.YthhjiakbhobphaaSmall
namespace Go.Proofs.Ythhjiakbhobphaa
open Go.RowKit

def takeE (L A B t now : Int) (F : Bool) : Int := if (mayB L A B && isTime t && isTime now) = true then (if takeB L A B t now F = true then 0 else 110) else 1
def takeX (L A B t now : Int) (F : Bool) (x : Int) : Int := if takeE L A B t now F = 0 then x else 0

theorem takeE_ok {L A B t now : Int} {F : Bool} (hm : mayB L A B = true) (ht : isTime t = true) (hn : isTime now = true) (hk : takeB L A B t now F = true) : takeE L A B t now F = 0 := by simp [takeE, *]
theorem takeE_stale {L A B t now : Int} {F : Bool} (hm : mayB L A B = true) (ht : isTime t = true) (hn : isTime now = true) (hk : takeB L A B t now F = false) : takeE L A B t now F = 110 := by simp [takeE, *]
theorem takeE_arg {L A B t now : Int} {F : Bool} (hm : mayB L A B = false ∨ isTime t = false ∨ isTime now = false) : takeE L A B t now F = 1 := by
  rcases hm with h | h | h <;> simp [takeE, h]
theorem takeE_zero {L A B t now : Int} {F : Bool} (h : takeE L A B t now F = 0) : mayB L A B = true ∧ isTime t = true ∧ isTime now = true ∧ takeB L A B t now F = true := by
  unfold takeE at h
  split at h
  · split at h
    · simp_all
    · cases h
  · cases h

theorem take_any (L A B t now : Int) (F : Bool) (w : World) :
   Calls Try.prog 9 #[.agg #[.int .i64 L, .int .i64 A, .int .i64 B, .bool F], .int .i64 t, .int .i64 now] w fun e w' =>
     e = .returned (.tuple #[.agg #[.int .i64 (takeX L A B t now F t), .int .i64 (takeX L A B t now F A), .int .i64 (takeX L A B t now F B), .bool false], .int .i64 (takeE L A B t now F)]) ∧ Below w.heap.size w w' := by
  by_cases hm : mayB L A B = true
  · by_cases ht : isTime t = true
    · by_cases hn : isTime now = true
      · by_cases hk : takeB L A B t now F = true
        · have := takeE_ok hm ht hn hk
          simp only [takeX, this, if_pos]
          exact take_ok L A B t now F w hm ht hn hk
        · have hk := Bool.eq_false_iff.2 hk
          have := takeE_stale hm ht hn hk
          simp only [takeX, this]
          exact take_stale L A B t now F w hm ht hn hk
      · have h := (.inr (.inr (Bool.eq_false_iff.2 hn)) : mayB L A B = false ∨ isTime t = false ∨ isTime now = false)
        have := takeE_arg (F := F) h
        simp only [takeX, this]
        exact take_arg L A B t now F w h
    · have h := (.inr (.inl (Bool.eq_false_iff.2 ht)) : mayB L A B = false ∨ isTime t = false ∨ isTime now = false)
      have := takeE_arg (F := F) h
      simp only [takeX, this]
      exact take_arg L A B t now F w h
  · have h := (.inl (Bool.eq_false_iff.2 hm) : mayB L A B = false ∨ isTime t = false ∨ isTime now = false)
    have := takeE_arg (F := F) h
    simp only [takeX, this]
    exact take_arg L A B t now F w h

def laterE (a b : Int) : Int := if isTime a && isTime b && isTime (a + b) then 0 else 7
def laterV (a b : Int) : Int := if isTime a && isTime b && isTime (a + b) then a + b else 0

set_option maxHeartbeats 1000000 in
theorem later_any (a b : Int) (w : World) : Calls Try.prog 17 #[.int .i64 a, .int .i64 b] w fun e w' => e = .returned (.tuple #[.int .i64 (laterV a b), .int .i64 (laterE a b)]) ∧ w = w' := by
  by_cases h1 : isTime a = true
  · by_cases h2 : isTime b = true
    · obtain ⟨a1, a2⟩ := isTime_t.1 h1
      obtain ⟨b1, b2⟩ := isTime_t.1 h2
      by_cases h3 : isTime (a + b) = true
      · have E : Hid (laterE a b = 0 ∧ laterV a b = a + b) := Lib.hid (by simp [laterE, laterV, *])
        go_enter Try.func17, Try.ntmps17
        go_wp2_with (go_at_call 19; refine (time_any _ _).mono ?_; rintro e w' ⟨rfl, rfl⟩)
        go_ret2
        rw [E.out.1, E.out.2]
        exact ⟨rfl, rfl⟩
      · have h3 := Bool.eq_false_iff.2 h3
        have E : Hid (laterE a b = 7 ∧ laterV a b = 0) := Lib.hid (by simp [laterE, laterV, *])
        go_enter Try.func17, Try.ntmps17
        go_wp2_with (go_at_call 19; refine (time_any _ _).mono ?_; rintro e w' ⟨rfl, rfl⟩)
        go_ret2
        rw [E.out.1, E.out.2]
        exact ⟨rfl, rfl⟩
    · have h2 := Bool.eq_false_iff.2 h2
      have E : Hid (laterE a b = 7 ∧ laterV a b = 0) := Lib.hid (by simp [laterE, laterV, *])
      go_enter Try.func17, Try.ntmps17
      go_wp2_with (go_at_call 19; refine (time_any _ _).mono ?_; rintro e w' ⟨rfl, rfl⟩)
      go_ret2
      rw [E.out.1, E.out.2]
      exact ⟨rfl, rfl⟩
  · have h1 := Bool.eq_false_iff.2 h1
    have E : Hid (laterE a b = 7 ∧ laterV a b = 0) := Lib.hid (by simp [laterE, laterV, *])
    go_enter Try.func17, Try.ntmps17
    go_wp2_with (go_at_call 19; refine (time_any _ _).mono ?_; rintro e w' ⟨rfl, rfl⟩)
    go_ret2
    rw [E.out.1, E.out.2]
    exact ⟨rfl, rfl⟩

set_option maxHeartbeats 1000000 in
theorem rlater_any (a b : Int) (w : World) : Calls Try.prog 18 #[.int .i64 a, .int .i64 b] w fun e w' => e = .returned (.tuple #[.int .i64 (laterV a b), .int .i64 (laterE a b)]) ∧ w = w' := by
  by_cases h1 : isTime a = true
  · by_cases h2 : isTime b = true
    · obtain ⟨a1, a2⟩ := isTime_t.1 h1
      obtain ⟨b1, b2⟩ := isTime_t.1 h2
      by_cases h3 : isTime (a + b) = true
      · have E : Hid (laterE a b = 0 ∧ laterV a b = a + b) := Lib.hid (by simp [laterE, laterV, *])
        go_enter Try.func18, Try.ntmps18
        go_wp2_with (go_at_call 21; refine (rtime_any _ _).mono ?_; rintro e w' ⟨rfl, rfl⟩)
        go_ret2
        rw [E.out.1, E.out.2]
        exact ⟨rfl, rfl⟩
      · have h3 := Bool.eq_false_iff.2 h3
        have E : Hid (laterE a b = 7 ∧ laterV a b = 0) := Lib.hid (by simp [laterE, laterV, *])
        go_enter Try.func18, Try.ntmps18
        go_wp2_with (go_at_call 21; refine (rtime_any _ _).mono ?_; rintro e w' ⟨rfl, rfl⟩)
        go_ret2
        rw [E.out.1, E.out.2]
        exact ⟨rfl, rfl⟩
    · have h2 := Bool.eq_false_iff.2 h2
      have E : Hid (laterE a b = 7 ∧ laterV a b = 0) := Lib.hid (by simp [laterE, laterV, *])
      go_enter Try.func18, Try.ntmps18
      go_wp2_with (go_at_call 21; refine (rtime_any _ _).mono ?_; rintro e w' ⟨rfl, rfl⟩)
      go_ret2
      rw [E.out.1, E.out.2]
      exact ⟨rfl, rfl⟩
  · have h1 := Bool.eq_false_iff.2 h1
    have E : Hid (laterE a b = 7 ∧ laterV a b = 0) := Lib.hid (by simp [laterE, laterV, *])
    go_enter Try.func18, Try.ntmps18
    go_wp2_with (go_at_call 21; refine (rtime_any _ _).mono ?_; rintro e w' ⟨rfl, rfl⟩)
    go_ret2
    rw [E.out.1, E.out.2]
    exact ⟨rfl, rfl⟩
end Go.Proofs.Ythhjiakbhobphaa
