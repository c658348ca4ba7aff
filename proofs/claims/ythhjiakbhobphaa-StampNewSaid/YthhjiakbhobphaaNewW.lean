/- StampNew, walked: any windows, any two times: the law answers true, and writes into new memory alone. -/
import Derived.Test.YthhjiakbhobphaaAwake
import Derived.Test.YthhjiakbhobphaaTakeX
import Derived.Deep.RegionHeld3
namespace Go.Proofs.Ythhjiakbhobphaa
open Go.RowKit

set_option maxHeartbeats 2000000 in
theorem new_ok_walk (a b : Int) (w : World) (h1 : isTime a = true) (h2 : isTime b = true) :
   Calls Try.prog 7 #[.int .i64 a, .int .i64 b] w fun e w' => e = .returned (.bool true) ∧ Below w.heap.size w w' := by
  have hm : mayB (-1) a b = true := by simp [mayB, isTime] at *; omega
  have Hh1 := Lib.hid h1
  have Hh2 := Lib.hid h2
  clear h1 h2
  go_enter Try.func7, Try.ntmps7
  go_wp2_with fail
  refine (awake_any _).mono ?_
  rintro e w1 ⟨rfl, hb1⟩
  have z1 := hb1.size
  try simp at z1
  have g1 : Below w.heap.size w w1 := by
    refine below_from ?_ hb1
    repeat (first | exact (Below.refl _ _) | refine Below.setCell ?_ (by first | omega | (simp; omega)) _ | refine Below.alloc ?_ (by first | omega | (simp; omega)) _ | refine Below.drew ?_)
  have q1 := g1.size
  go_wp2_with fail
  refine (new_ok _ _ _ Hh1.out Hh2.out).mono ?_
  rintro e w2 ⟨rfl, hb2⟩
  have z2 := hb2.size
  try simp at z2
  have g2 : Below w.heap.size w w2 := by
    refine below_from ?_ hb2
    repeat (first | exact g1 | refine Below.setCell ?_ (by first | omega | (simp; omega)) _ | refine Below.alloc ?_ (by first | omega | (simp; omega)) _ | refine Below.drew ?_)
  have q2 := g2.size
  go_wp2_with fail
  refine (rnew_ok _ _ _ Hh1.out Hh2.out).mono ?_
  rintro e w3 ⟨rfl, hb3⟩
  have c3_0_0 := cell_later hb3 (a := ⟨w2.heap.size, 0, none⟩) (v := .int .i64 (-1)) (by go_simp)
  have c3_0_1 := cell_later hb3 (a := ⟨w2.heap.size, 1, none⟩) (v := .int .i64 a) (by go_simp)
  have c3_0_2 := cell_later hb3 (a := ⟨w2.heap.size, 2, none⟩) (v := .int .i64 b) (by go_simp)
  have c3_0_3 := cell_later hb3 (a := ⟨w2.heap.size, 3, none⟩) (v := .bool false) (by go_simp)
  have y3_0 : w2.heap.size < w3.heap.size := by have := hb3.size; (try simp at this); omega
  have z3 := hb3.size
  try simp at z3
  have g3 : Below w.heap.size w w3 := by
    refine below_from ?_ hb3
    repeat (first | exact g2 | refine Below.setCell ?_ (by first | omega | (simp; omega)) _ | refine Below.alloc ?_ (by first | omega | (simp; omega)) _ | refine Below.drew ?_)
  have q3 := g3.size
  go_wp2_with fail
  refine (later_any _ _ _).mono ?_
  rintro e w4 ⟨rfl, rfl⟩
  go_wp2_with fail
  refine (rlater_any _ _ _).mono ?_
  rintro e w4 ⟨rfl, rfl⟩
  go_wp2_with fail
  refine (may_any _ _ _ _ _).mono ?_
  rintro e w4 ⟨rfl, rfl⟩
  go_wp2_with fail
  go_ret
  refine ⟨rfl, ?_⟩
  repeat (first | exact g3 | refine Below.setCell ?_ (by first | omega | (simp; omega)) _ | refine Below.alloc ?_ (by first | omega | (simp; omega)) _ | refine Below.drew ?_)

set_option maxHeartbeats 2000000 in
theorem new_arg_walk (a b : Int) (w : World) (h1 : isTime a = false ∨ isTime b = false) :
   Calls Try.prog 7 #[.int .i64 a, .int .i64 b] w fun e w' => e = .returned (.bool true) ∧ Below w.heap.size w w' := by
  have hm : mayB 0 0 0 = true := rfl
  have Hh1 := Lib.hid h1
  clear h1
  go_enter Try.func7, Try.ntmps7
  go_wp2_with fail
  refine (awake_any _).mono ?_
  rintro e w1 ⟨rfl, hb1⟩
  have z1 := hb1.size
  try simp at z1
  have g1 : Below w.heap.size w w1 := by
    refine below_from ?_ hb1
    repeat (first | exact (Below.refl _ _) | refine Below.setCell ?_ (by first | omega | (simp; omega)) _ | refine Below.alloc ?_ (by first | omega | (simp; omega)) _ | refine Below.drew ?_)
  have q1 := g1.size
  go_wp2_with fail
  refine (new_arg _ _ _ Hh1.out).mono ?_
  rintro e w2 ⟨rfl, hb2⟩
  have z2 := hb2.size
  try simp at z2
  have g2 : Below w.heap.size w w2 := by
    refine below_from ?_ hb2
    repeat (first | exact g1 | refine Below.setCell ?_ (by first | omega | (simp; omega)) _ | refine Below.alloc ?_ (by first | omega | (simp; omega)) _ | refine Below.drew ?_)
  have q2 := g2.size
  go_wp2_with fail
  refine (rnew_arg _ _ _ Hh1.out).mono ?_
  rintro e w3 ⟨rfl, hb3⟩
  have c3_0_0 := cell_later hb3 (a := ⟨w2.heap.size, 0, none⟩) (v := .int .i64 0) (by go_simp)
  have c3_0_1 := cell_later hb3 (a := ⟨w2.heap.size, 1, none⟩) (v := .int .i64 0) (by go_simp)
  have c3_0_2 := cell_later hb3 (a := ⟨w2.heap.size, 2, none⟩) (v := .int .i64 0) (by go_simp)
  have c3_0_3 := cell_later hb3 (a := ⟨w2.heap.size, 3, none⟩) (v := .bool false) (by go_simp)
  have y3_0 : w2.heap.size < w3.heap.size := by have := hb3.size; (try simp at this); omega
  have z3 := hb3.size
  try simp at z3
  have g3 : Below w.heap.size w w3 := by
    refine below_from ?_ hb3
    repeat (first | exact g2 | refine Below.setCell ?_ (by first | omega | (simp; omega)) _ | refine Below.alloc ?_ (by first | omega | (simp; omega)) _ | refine Below.drew ?_)
  have q3 := g3.size
  go_wp2_with fail
  refine (later_any _ _ _).mono ?_
  rintro e w4 ⟨rfl, rfl⟩
  go_wp2_with fail
  refine (rlater_any _ _ _).mono ?_
  rintro e w4 ⟨rfl, rfl⟩
  go_wp2_with fail
  refine (may_any _ _ _ _ _).mono ?_
  rintro e w4 ⟨rfl, rfl⟩
  go_wp2_with fail
  go_ret
  refine ⟨rfl, ?_⟩
  repeat (first | exact g3 | refine Below.setCell ?_ (by first | omega | (simp; omega)) _ | refine Below.alloc ?_ (by first | omega | (simp; omega)) _ | refine Below.drew ?_)

theorem new_any_walk (a b : Int) (w : World) :
   Calls Try.prog 7 #[.int .i64 a, .int .i64 b] w fun e w' => e = .returned (.bool true) ∧ Below w.heap.size w w' := by
  by_cases h1 : isTime a = true
  · by_cases h2 : isTime b = true
    · exact new_ok_walk a b w h1 h2
    · exact new_arg_walk a b w (.inr (Bool.eq_false_iff.2 h2))
  · exact new_arg_walk a b w (.inl (Bool.eq_false_iff.2 h1))
end Go.Proofs.Ythhjiakbhobphaa
