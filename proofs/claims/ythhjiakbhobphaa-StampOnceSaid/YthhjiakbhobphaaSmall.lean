/- Contracts of stamp.New, stamp.Release and of their references: what they answer; they write into new memory alone. -/
import Derived.Test.YthhjiakbhobphaaTake
namespace Go.Proofs.Ythhjiakbhobphaa
open Go.RowKit

theorem new_ok (A B : Int) (w : World) (h1 : isTime A = true) (h2 : isTime B = true) :
    Calls Try.prog 15 #[.int .i64 A, .int .i64 B] w fun e w' => e = .returned (.tuple #[.agg #[.int .i64 (-1), .int .i64 A, .int .i64 B, .bool false], .int .i64 0]) ∧ Below w.heap.size w w' := by
  · go_enter Try.func15, Try.ntmps15
    go_wp2_with (go_at_call 19; refine (time_any _ _).mono ?_; rintro e w' ⟨rfl, rfl⟩)
    all_goals
      refine bodyPost_ret (v := .tuple #[.agg #[.int .i64 (-1), .int .i64 A, .int .i64 B, .bool false], .int .i64 0]) (by simp [results, Try.results15, go_sem]) rfl ⟨rfl, ?_⟩
      repeat (first | exact Below.refl _ _ | refine Below.setCell ?_ (by simp; try omega) _ | refine Below.alloc ?_ (by simp; try omega) _ | refine Below.drew ?_)
theorem new_arg (A B : Int) (w : World) (h : isTime A = false ∨ isTime B = false) :
    Calls Try.prog 15 #[.int .i64 A, .int .i64 B] w fun e w' => e = .returned (.tuple #[.agg #[.int .i64 0, .int .i64 0, .int .i64 0, .bool false], .int .i64 1]) ∧ Below w.heap.size w w' := by
  by_cases h1 : isTime A = true
  · have h2 : isTime B = false := by simp_all
    clear h
    go_enter Try.func15, Try.ntmps15
    go_wp2_with (go_at_call 19; refine (time_any _ _).mono ?_; rintro e w' ⟨rfl, rfl⟩)
    all_goals
      refine bodyPost_ret (v := .tuple #[.agg #[.int .i64 0, .int .i64 0, .int .i64 0, .bool false], .int .i64 1]) (by simp [results, Try.results15, go_sem]) rfl ⟨rfl, ?_⟩
      repeat (first | exact Below.refl _ _ | refine Below.setCell ?_ (by simp; try omega) _ | refine Below.alloc ?_ (by simp; try omega) _ | refine Below.drew ?_)
  · have h2 : isTime A = false := by simp_all
    clear h h1
    go_enter Try.func15, Try.ntmps15
    go_wp2_with (go_at_call 19; refine (time_any _ _).mono ?_; rintro e w' ⟨rfl, rfl⟩)
    all_goals
      refine bodyPost_ret (v := .tuple #[.agg #[.int .i64 0, .int .i64 0, .int .i64 0, .bool false], .int .i64 1]) (by simp [results, Try.results15, go_sem]) rfl ⟨rfl, ?_⟩
      repeat (first | exact Below.refl _ _ | refine Below.setCell ?_ (by simp; try omega) _ | refine Below.alloc ?_ (by simp; try omega) _ | refine Below.drew ?_)

theorem rnew_ok (A B : Int) (w : World) (h1 : isTime A = true) (h2 : isTime B = true) :
    Calls Try.prog 16 #[.int .i64 A, .int .i64 B] w fun e w' => e = .returned (.tuple #[.agg #[.int .i64 (-1), .int .i64 A, .int .i64 B, .bool false], .int .i64 0]) ∧ Below w.heap.size w w' := by
  · go_enter Try.func16, Try.ntmps16
    go_wp2_with (go_at_call 21; refine (rtime_any _ _).mono ?_; rintro e w' ⟨rfl, rfl⟩)
    all_goals
      refine bodyPost_ret (v := .tuple #[.agg #[.int .i64 (-1), .int .i64 A, .int .i64 B, .bool false], .int .i64 0]) (by simp [results, Try.results16, go_sem]) rfl ⟨rfl, ?_⟩
      repeat (first | exact Below.refl _ _ | refine Below.setCell ?_ (by simp; try omega) _ | refine Below.alloc ?_ (by simp; try omega) _ | refine Below.drew ?_)
theorem rnew_arg (A B : Int) (w : World) (h : isTime A = false ∨ isTime B = false) :
    Calls Try.prog 16 #[.int .i64 A, .int .i64 B] w fun e w' => e = .returned (.tuple #[.agg #[.int .i64 0, .int .i64 0, .int .i64 0, .bool false], .int .i64 1]) ∧ Below w.heap.size w w' := by
  by_cases h1 : isTime A = true
  · have h2 : isTime B = false := by simp_all
    clear h
    go_enter Try.func16, Try.ntmps16
    go_wp2_with (go_at_call 21; refine (rtime_any _ _).mono ?_; rintro e w' ⟨rfl, rfl⟩)
    all_goals
      refine bodyPost_ret (v := .tuple #[.agg #[.int .i64 0, .int .i64 0, .int .i64 0, .bool false], .int .i64 1]) (by simp [results, Try.results16, go_sem]) rfl ⟨rfl, ?_⟩
      repeat (first | exact Below.refl _ _ | refine Below.setCell ?_ (by simp; try omega) _ | refine Below.alloc ?_ (by simp; try omega) _ | refine Below.drew ?_)
  · have h2 : isTime A = false := by simp_all
    clear h h1
    go_enter Try.func16, Try.ntmps16
    go_wp2_with (go_at_call 21; refine (rtime_any _ _).mono ?_; rintro e w' ⟨rfl, rfl⟩)
    all_goals
      refine bodyPost_ret (v := .tuple #[.agg #[.int .i64 0, .int .i64 0, .int .i64 0, .bool false], .int .i64 1]) (by simp [results, Try.results16, go_sem]) rfl ⟨rfl, ?_⟩
      repeat (first | exact Below.refl _ _ | refine Below.setCell ?_ (by simp; try omega) _ | refine Below.alloc ?_ (by simp; try omega) _ | refine Below.drew ?_)

theorem release_ex (L A B : Int) (F : Bool) (w : World) :
    Calls Try.prog 13 #[.agg #[.int .i64 L, .int .i64 A, .int .i64 B, .bool F]] w fun e w' => e = .returned (.agg #[.int .i64 L, .int .i64 A, .int .i64 B, .bool true]) ∧ (w.alloc (.cells #[.int .i64 L, .int .i64 A, .int .i64 B, .bool true] 23)).alloc (.cells #[.int .i64 L, .int .i64 A, .int .i64 B, .bool true] 23) = w' := by
  go_enter Try.func13, Try.ntmps13
  go_wp2
  refine bodyPost_ret (v := .agg #[.int .i64 L, .int .i64 A, .int .i64 B, .bool true]) (by simp [results, Try.results13, go_sem]) rfl ⟨rfl, rfl⟩
theorem release_any (L A B : Int) (F : Bool) (w : World) :
    Calls Try.prog 13 #[.agg #[.int .i64 L, .int .i64 A, .int .i64 B, .bool F]] w fun e w' => e = .returned (.agg #[.int .i64 L, .int .i64 A, .int .i64 B, .bool true]) ∧ Below w.heap.size w w' :=
  (release_ex L A B F w).mono fun _ _ ⟨h, h2⟩ => ⟨h, by subst h2; exact ((Below.refl _ _).alloc (Nat.le_refl _) _).alloc (by simp) _⟩

theorem rrelease_ex (L A B : Int) (F : Bool) (w : World) :
    Calls Try.prog 14 #[.agg #[.int .i64 L, .int .i64 A, .int .i64 B, .bool F]] w fun e w' => e = .returned (.agg #[.int .i64 L, .int .i64 A, .int .i64 B, .bool true]) ∧ (w.alloc (.cells #[.int .i64 L, .int .i64 A, .int .i64 B, .bool F] 23)).alloc (.cells #[.int .i64 L, .int .i64 A, .int .i64 B, .bool true] 23) = w' := by
  go_enter Try.func14, Try.ntmps14
  go_wp2
  refine bodyPost_ret (v := .agg #[.int .i64 L, .int .i64 A, .int .i64 B, .bool true]) (by simp [results, Try.results14, go_sem]) rfl ⟨rfl, rfl⟩
theorem rrelease_any (L A B : Int) (F : Bool) (w : World) :
    Calls Try.prog 14 #[.agg #[.int .i64 L, .int .i64 A, .int .i64 B, .bool F]] w fun e w' => e = .returned (.agg #[.int .i64 L, .int .i64 A, .int .i64 B, .bool true]) ∧ Below w.heap.size w w' :=
  (rrelease_ex L A B F w).mono fun _ _ ⟨h, h2⟩ => ⟨h, by subst h2; exact ((Below.refl _ _).alloc (Nat.le_refl _) _).alloc (by simp) _⟩


end Go.Proofs.Ythhjiakbhobphaa
