/- StampWide, walked: any stamp, told any time at any time, and any widening: the law answers true, and writes into new memory alone. -/
import Derived.Test.YthhjiakbhobphaaAwake
import Derived.Test.YthhjiakbhobphaaTakeX
import Derived.Deep.RegionHeld3
namespace Go.Proofs.Ythhjiakbhobphaa
open Go.RowKit

theorem wide_plain {L A B t now more : Int} {F : Bool} (h : takeE L A B t now F = 0) (m1 : 0 ≤ more) (a2 : A ≤ 4294967294 - more) (b2 : B ≤ 4294967294 - more) :
    takeE L (A + more) (B + more) t now F = 0 := by
  obtain ⟨hm, ht, hn, hk⟩ := takeE_zero h
  obtain ⟨x1, x2, x3, x4, x5, x6⟩ := may_bd hm
  refine takeE_ok ?_ ht hn ?_
  · have e1 : isTime (A + more) = true := isTime_t.2 (by omega)
    have e2 : isTime (B + more) = true := isTime_t.2 (by omega)
    have e3 : (L == -1 || isTime L) = true := by
      simp only [mayB, Bool.and_eq_true] at hm
      exact hm.2
    simp [mayB, e1, e2, e3]
  · have hk2 : (now - B ≤ t ∧ t ≤ now + A) ∧ (F = true ∨ L < t) := by simpa [takeB] using hk
    have hk3 : (now - (B + more) ≤ t ∧ t ≤ now + (A + more)) ∧ (F = true ∨ L < t) := ⟨by omega, hk2.2⟩
    simpa [takeB] using hk3

set_option maxHeartbeats 2000000 in
theorem wide_out0 (L A B t now more : Int) (F : Bool) (w : World)  (c : more < 0) :
   Calls Try.prog 6 #[.agg #[.int .i64 L, .int .i64 A, .int .i64 B, .bool F], .int .i64 t, .int .i64 now, .int .i64 more] w fun e w' => e = .returned (.bool true) ∧ Below w.heap.size w w' := by
  go_enter Try.func6, Try.ntmps6
  go_wp2_with fail
  refine (awake_any _).mono ?_
  rintro e w1 ⟨rfl, hb1⟩
  have c1_0_0 := cell_later hb1 (a := ⟨w.heap.size, 0, none⟩) (v := .int .i64 L) (by go_simp)
  have c1_0_1 := cell_later hb1 (a := ⟨w.heap.size, 1, none⟩) (v := .int .i64 A) (by go_simp)
  have c1_0_2 := cell_later hb1 (a := ⟨w.heap.size, 2, none⟩) (v := .int .i64 B) (by go_simp)
  have c1_0_3 := cell_later hb1 (a := ⟨w.heap.size, 3, none⟩) (v := .bool F) (by go_simp)
  have y1_0 : w.heap.size < w1.heap.size := by have := hb1.size; (try simp at this); omega
  have z1 := hb1.size
  try simp at z1
  have g1 : Below w.heap.size w w1 := by
    refine below_from ?_ hb1
    repeat (first | exact (Below.refl _ _) | refine Below.setCell ?_ (by first | omega | (simp; omega)) _ | refine Below.alloc ?_ (by first | omega | (simp; omega)) _ | refine Below.drew ?_)
  have q1 := g1.size
  go_wp2
  go_ret
  refine ⟨rfl, ?_⟩
  repeat (first | exact g1 | refine Below.setCell ?_ (by first | omega | (simp; omega)) _ | refine Below.alloc ?_ (by first | omega | (simp; omega)) _ | refine Below.drew ?_)

set_option maxHeartbeats 2000000 in
theorem wide_out1 (L A B t now more : Int) (F : Bool) (w : World) (n0 : 0 ≤ more) (c : 4294967294 < more) :
   Calls Try.prog 6 #[.agg #[.int .i64 L, .int .i64 A, .int .i64 B, .bool F], .int .i64 t, .int .i64 now, .int .i64 more] w fun e w' => e = .returned (.bool true) ∧ Below w.heap.size w w' := by
  go_enter Try.func6, Try.ntmps6
  go_wp2_with fail
  refine (awake_any _).mono ?_
  rintro e w1 ⟨rfl, hb1⟩
  have c1_0_0 := cell_later hb1 (a := ⟨w.heap.size, 0, none⟩) (v := .int .i64 L) (by go_simp)
  have c1_0_1 := cell_later hb1 (a := ⟨w.heap.size, 1, none⟩) (v := .int .i64 A) (by go_simp)
  have c1_0_2 := cell_later hb1 (a := ⟨w.heap.size, 2, none⟩) (v := .int .i64 B) (by go_simp)
  have c1_0_3 := cell_later hb1 (a := ⟨w.heap.size, 3, none⟩) (v := .bool F) (by go_simp)
  have y1_0 : w.heap.size < w1.heap.size := by have := hb1.size; (try simp at this); omega
  have z1 := hb1.size
  try simp at z1
  have g1 : Below w.heap.size w w1 := by
    refine below_from ?_ hb1
    repeat (first | exact (Below.refl _ _) | refine Below.setCell ?_ (by first | omega | (simp; omega)) _ | refine Below.alloc ?_ (by first | omega | (simp; omega)) _ | refine Below.drew ?_)
  have q1 := g1.size
  go_wp2
  go_ret
  refine ⟨rfl, ?_⟩
  repeat (first | exact g1 | refine Below.setCell ?_ (by first | omega | (simp; omega)) _ | refine Below.alloc ?_ (by first | omega | (simp; omega)) _ | refine Below.drew ?_)

set_option maxHeartbeats 2000000 in
theorem wide_out2 (L A B t now more : Int) (F : Bool) (w : World) (n0 : 0 ≤ more) (n1 : more ≤ 4294967294) (c : A < 0) :
   Calls Try.prog 6 #[.agg #[.int .i64 L, .int .i64 A, .int .i64 B, .bool F], .int .i64 t, .int .i64 now, .int .i64 more] w fun e w' => e = .returned (.bool true) ∧ Below w.heap.size w w' := by
  go_enter Try.func6, Try.ntmps6
  go_wp2_with fail
  refine (awake_any _).mono ?_
  rintro e w1 ⟨rfl, hb1⟩
  have c1_0_0 := cell_later hb1 (a := ⟨w.heap.size, 0, none⟩) (v := .int .i64 L) (by go_simp)
  have c1_0_1 := cell_later hb1 (a := ⟨w.heap.size, 1, none⟩) (v := .int .i64 A) (by go_simp)
  have c1_0_2 := cell_later hb1 (a := ⟨w.heap.size, 2, none⟩) (v := .int .i64 B) (by go_simp)
  have c1_0_3 := cell_later hb1 (a := ⟨w.heap.size, 3, none⟩) (v := .bool F) (by go_simp)
  have y1_0 : w.heap.size < w1.heap.size := by have := hb1.size; (try simp at this); omega
  have z1 := hb1.size
  try simp at z1
  have g1 : Below w.heap.size w w1 := by
    refine below_from ?_ hb1
    repeat (first | exact (Below.refl _ _) | refine Below.setCell ?_ (by first | omega | (simp; omega)) _ | refine Below.alloc ?_ (by first | omega | (simp; omega)) _ | refine Below.drew ?_)
  have q1 := g1.size
  go_wp2
  go_ret
  refine ⟨rfl, ?_⟩
  repeat (first | exact g1 | refine Below.setCell ?_ (by first | omega | (simp; omega)) _ | refine Below.alloc ?_ (by first | omega | (simp; omega)) _ | refine Below.drew ?_)

set_option maxHeartbeats 2000000 in
theorem wide_out3 (L A B t now more : Int) (F : Bool) (w : World) (n0 : 0 ≤ more) (n1 : more ≤ 4294967294) (n2 : 0 ≤ A) (c : B < 0) :
   Calls Try.prog 6 #[.agg #[.int .i64 L, .int .i64 A, .int .i64 B, .bool F], .int .i64 t, .int .i64 now, .int .i64 more] w fun e w' => e = .returned (.bool true) ∧ Below w.heap.size w w' := by
  go_enter Try.func6, Try.ntmps6
  go_wp2_with fail
  refine (awake_any _).mono ?_
  rintro e w1 ⟨rfl, hb1⟩
  have c1_0_0 := cell_later hb1 (a := ⟨w.heap.size, 0, none⟩) (v := .int .i64 L) (by go_simp)
  have c1_0_1 := cell_later hb1 (a := ⟨w.heap.size, 1, none⟩) (v := .int .i64 A) (by go_simp)
  have c1_0_2 := cell_later hb1 (a := ⟨w.heap.size, 2, none⟩) (v := .int .i64 B) (by go_simp)
  have c1_0_3 := cell_later hb1 (a := ⟨w.heap.size, 3, none⟩) (v := .bool F) (by go_simp)
  have y1_0 : w.heap.size < w1.heap.size := by have := hb1.size; (try simp at this); omega
  have z1 := hb1.size
  try simp at z1
  have g1 : Below w.heap.size w w1 := by
    refine below_from ?_ hb1
    repeat (first | exact (Below.refl _ _) | refine Below.setCell ?_ (by first | omega | (simp; omega)) _ | refine Below.alloc ?_ (by first | omega | (simp; omega)) _ | refine Below.drew ?_)
  have q1 := g1.size
  go_wp2
  go_ret
  refine ⟨rfl, ?_⟩
  repeat (first | exact g1 | refine Below.setCell ?_ (by first | omega | (simp; omega)) _ | refine Below.alloc ?_ (by first | omega | (simp; omega)) _ | refine Below.drew ?_)

set_option maxHeartbeats 2000000 in
theorem wide_out4 (L A B t now more : Int) (F : Bool) (w : World) (n0 : 0 ≤ more) (n1 : more ≤ 4294967294) (n2 : 0 ≤ A) (n3 : 0 ≤ B) (c : 4294967294 - more < A) :
   Calls Try.prog 6 #[.agg #[.int .i64 L, .int .i64 A, .int .i64 B, .bool F], .int .i64 t, .int .i64 now, .int .i64 more] w fun e w' => e = .returned (.bool true) ∧ Below w.heap.size w w' := by
  go_enter Try.func6, Try.ntmps6
  go_wp2_with fail
  refine (awake_any _).mono ?_
  rintro e w1 ⟨rfl, hb1⟩
  have c1_0_0 := cell_later hb1 (a := ⟨w.heap.size, 0, none⟩) (v := .int .i64 L) (by go_simp)
  have c1_0_1 := cell_later hb1 (a := ⟨w.heap.size, 1, none⟩) (v := .int .i64 A) (by go_simp)
  have c1_0_2 := cell_later hb1 (a := ⟨w.heap.size, 2, none⟩) (v := .int .i64 B) (by go_simp)
  have c1_0_3 := cell_later hb1 (a := ⟨w.heap.size, 3, none⟩) (v := .bool F) (by go_simp)
  have y1_0 : w.heap.size < w1.heap.size := by have := hb1.size; (try simp at this); omega
  have z1 := hb1.size
  try simp at z1
  have g1 : Below w.heap.size w w1 := by
    refine below_from ?_ hb1
    repeat (first | exact (Below.refl _ _) | refine Below.setCell ?_ (by first | omega | (simp; omega)) _ | refine Below.alloc ?_ (by first | omega | (simp; omega)) _ | refine Below.drew ?_)
  have q1 := g1.size
  go_wp2
  go_ret
  refine ⟨rfl, ?_⟩
  repeat (first | exact g1 | refine Below.setCell ?_ (by first | omega | (simp; omega)) _ | refine Below.alloc ?_ (by first | omega | (simp; omega)) _ | refine Below.drew ?_)

set_option maxHeartbeats 2000000 in
theorem wide_out5 (L A B t now more : Int) (F : Bool) (w : World) (n0 : 0 ≤ more) (n1 : more ≤ 4294967294) (n2 : 0 ≤ A) (n3 : 0 ≤ B) (n4 : A ≤ 4294967294 - more) (c : 4294967294 - more < B) :
   Calls Try.prog 6 #[.agg #[.int .i64 L, .int .i64 A, .int .i64 B, .bool F], .int .i64 t, .int .i64 now, .int .i64 more] w fun e w' => e = .returned (.bool true) ∧ Below w.heap.size w w' := by
  go_enter Try.func6, Try.ntmps6
  go_wp2_with fail
  refine (awake_any _).mono ?_
  rintro e w1 ⟨rfl, hb1⟩
  have c1_0_0 := cell_later hb1 (a := ⟨w.heap.size, 0, none⟩) (v := .int .i64 L) (by go_simp)
  have c1_0_1 := cell_later hb1 (a := ⟨w.heap.size, 1, none⟩) (v := .int .i64 A) (by go_simp)
  have c1_0_2 := cell_later hb1 (a := ⟨w.heap.size, 2, none⟩) (v := .int .i64 B) (by go_simp)
  have c1_0_3 := cell_later hb1 (a := ⟨w.heap.size, 3, none⟩) (v := .bool F) (by go_simp)
  have y1_0 : w.heap.size < w1.heap.size := by have := hb1.size; (try simp at this); omega
  have z1 := hb1.size
  try simp at z1
  have g1 : Below w.heap.size w w1 := by
    refine below_from ?_ hb1
    repeat (first | exact (Below.refl _ _) | refine Below.setCell ?_ (by first | omega | (simp; omega)) _ | refine Below.alloc ?_ (by first | omega | (simp; omega)) _ | refine Below.drew ?_)
  have q1 := g1.size
  go_wp2
  go_ret
  refine ⟨rfl, ?_⟩
  repeat (first | exact g1 | refine Below.setCell ?_ (by first | omega | (simp; omega)) _ | refine Below.alloc ?_ (by first | omega | (simp; omega)) _ | refine Below.drew ?_)

set_option maxHeartbeats 4000000 in
theorem wide_yes (L A B t now more : Int) (F : Bool) (w : World) (n0 : 0 ≤ more) (n1 : more ≤ 4294967294) (n2 : 0 ≤ A) (n3 : 0 ≤ B) (n4 : A ≤ 4294967294 - more) (n5 : B ≤ 4294967294 - more) (hE : takeE L A B t now F = 0) :
   Calls Try.prog 6 #[.agg #[.int .i64 L, .int .i64 A, .int .i64 B, .bool F], .int .i64 t, .int .i64 now, .int .i64 more] w fun e w' => e = .returned (.bool true) ∧ Below w.heap.size w w' := by
  have hE2 := wide_plain hE n0 n4 n5
  have X1 : takeX L A B t now F t = t := by simp [takeX, hE]
  have X2 : takeX L (A + more) (B + more) t now F t = t := by simp [takeX, hE2]
  go_enter Try.func6, Try.ntmps6
  go_wp2_with fail
  refine (awake_any _).mono ?_
  rintro e w1 ⟨rfl, hb1⟩
  have c1_0_0 := cell_later hb1 (a := ⟨w.heap.size, 0, none⟩) (v := .int .i64 L) (by go_simp)
  have c1_0_1 := cell_later hb1 (a := ⟨w.heap.size, 1, none⟩) (v := .int .i64 A) (by go_simp)
  have c1_0_2 := cell_later hb1 (a := ⟨w.heap.size, 2, none⟩) (v := .int .i64 B) (by go_simp)
  have c1_0_3 := cell_later hb1 (a := ⟨w.heap.size, 3, none⟩) (v := .bool F) (by go_simp)
  have y1_0 : w.heap.size < w1.heap.size := by have := hb1.size; (try simp at this); omega
  have z1 := hb1.size
  try simp at z1
  have g1 : Below w.heap.size w w1 := by
    refine below_from ?_ hb1
    repeat (first | exact (Below.refl _ _) | refine Below.setCell ?_ (by first | omega | (simp; omega)) _ | refine Below.alloc ?_ (by first | omega | (simp; omega)) _ | refine Below.drew ?_)
  have q1 := g1.size
  go_wp2_with fail
  refine (take_any _ _ _ _ _ _ _).mono ?_
  rintro e w2 ⟨rfl, hb2⟩
  have c2_0_0 := cell_later hb2 (a := ⟨w.heap.size, 0, none⟩) (v := .int .i64 L) (by go_simp)
  have c2_0_1 := cell_later hb2 (a := ⟨w.heap.size, 1, none⟩) (v := .int .i64 A) (by go_simp)
  have c2_0_2 := cell_later hb2 (a := ⟨w.heap.size, 2, none⟩) (v := .int .i64 B) (by go_simp)
  have c2_0_3 := cell_later hb2 (a := ⟨w.heap.size, 3, none⟩) (v := .bool F) (by go_simp)
  have y2_0 : w.heap.size < w2.heap.size := by have := hb2.size; (try simp at this); omega
  have z2 := hb2.size
  try simp at z2
  have g2 : Below w.heap.size w w2 := by
    refine below_from ?_ hb2
    repeat (first | exact g1 | refine Below.setCell ?_ (by first | omega | (simp; omega)) _ | refine Below.alloc ?_ (by first | omega | (simp; omega)) _ | refine Below.drew ?_)
  have q2 := g2.size
  go_wp2_with fail
  refine (take_any _ _ _ _ _ _ _).mono ?_
  rintro e w3 ⟨rfl, hb3⟩
  have z3 := hb3.size
  try simp at z3
  have g3 : Below w.heap.size w w3 := by
    refine below_from ?_ hb3
    repeat (first | exact g2 | refine Below.setCell ?_ (by first | omega | (simp; omega)) _ | refine Below.alloc ?_ (by first | omega | (simp; omega)) _ | refine Below.drew ?_)
  have q3 := g3.size
  go_wp2_with fail
  go_ret
  refine ⟨rfl, ?_⟩
  repeat (first | exact g3 | refine Below.setCell ?_ (by first | omega | (simp; omega)) _ | refine Below.alloc ?_ (by first | omega | (simp; omega)) _ | refine Below.drew ?_)

set_option maxHeartbeats 4000000 in
theorem wide_no (L A B t now more : Int) (F : Bool) (w : World) (n0 : 0 ≤ more) (n1 : more ≤ 4294967294) (n2 : 0 ≤ A) (n3 : 0 ≤ B) (n4 : A ≤ 4294967294 - more) (n5 : B ≤ 4294967294 - more) (hE : (takeE L A B t now F != 0) = true) :
   Calls Try.prog 6 #[.agg #[.int .i64 L, .int .i64 A, .int .i64 B, .bool F], .int .i64 t, .int .i64 now, .int .i64 more] w fun e w' => e = .returned (.bool true) ∧ Below w.heap.size w w' := by
  go_enter Try.func6, Try.ntmps6
  go_wp2_with fail
  refine (awake_any _).mono ?_
  rintro e w1 ⟨rfl, hb1⟩
  have c1_0_0 := cell_later hb1 (a := ⟨w.heap.size, 0, none⟩) (v := .int .i64 L) (by go_simp)
  have c1_0_1 := cell_later hb1 (a := ⟨w.heap.size, 1, none⟩) (v := .int .i64 A) (by go_simp)
  have c1_0_2 := cell_later hb1 (a := ⟨w.heap.size, 2, none⟩) (v := .int .i64 B) (by go_simp)
  have c1_0_3 := cell_later hb1 (a := ⟨w.heap.size, 3, none⟩) (v := .bool F) (by go_simp)
  have y1_0 : w.heap.size < w1.heap.size := by have := hb1.size; (try simp at this); omega
  have z1 := hb1.size
  try simp at z1
  have g1 : Below w.heap.size w w1 := by
    refine below_from ?_ hb1
    repeat (first | exact (Below.refl _ _) | refine Below.setCell ?_ (by first | omega | (simp; omega)) _ | refine Below.alloc ?_ (by first | omega | (simp; omega)) _ | refine Below.drew ?_)
  have q1 := g1.size
  go_wp2_with fail
  refine (take_any _ _ _ _ _ _ _).mono ?_
  rintro e w2 ⟨rfl, hb2⟩
  have c2_0_0 := cell_later hb2 (a := ⟨w.heap.size, 0, none⟩) (v := .int .i64 L) (by go_simp)
  have c2_0_1 := cell_later hb2 (a := ⟨w.heap.size, 1, none⟩) (v := .int .i64 A) (by go_simp)
  have c2_0_2 := cell_later hb2 (a := ⟨w.heap.size, 2, none⟩) (v := .int .i64 B) (by go_simp)
  have c2_0_3 := cell_later hb2 (a := ⟨w.heap.size, 3, none⟩) (v := .bool F) (by go_simp)
  have y2_0 : w.heap.size < w2.heap.size := by have := hb2.size; (try simp at this); omega
  have z2 := hb2.size
  try simp at z2
  have g2 : Below w.heap.size w w2 := by
    refine below_from ?_ hb2
    repeat (first | exact g1 | refine Below.setCell ?_ (by first | omega | (simp; omega)) _ | refine Below.alloc ?_ (by first | omega | (simp; omega)) _ | refine Below.drew ?_)
  have q2 := g2.size
  go_wp2_with fail
  refine (take_any _ _ _ _ _ _ _).mono ?_
  rintro e w3 ⟨rfl, hb3⟩
  have z3 := hb3.size
  try simp at z3
  have g3 : Below w.heap.size w w3 := by
    refine below_from ?_ hb3
    repeat (first | exact g2 | refine Below.setCell ?_ (by first | omega | (simp; omega)) _ | refine Below.alloc ?_ (by first | omega | (simp; omega)) _ | refine Below.drew ?_)
  have q3 := g3.size
  go_wp2_with fail
  go_ret
  refine ⟨rfl, ?_⟩
  repeat (first | exact g3 | refine Below.setCell ?_ (by first | omega | (simp; omega)) _ | refine Below.alloc ?_ (by first | omega | (simp; omega)) _ | refine Below.drew ?_)

theorem wide_any (L A B t now more : Int) (F : Bool) (w : World) :
   Calls Try.prog 6 #[.agg #[.int .i64 L, .int .i64 A, .int .i64 B, .bool F], .int .i64 t, .int .i64 now, .int .i64 more] w fun e w' => e = .returned (.bool true) ∧ Below w.heap.size w w' := by
  by_cases n0 : 0 ≤ more
  case neg => exact wide_out0 L A B t now more F w  (by omega)
  by_cases n1 : more ≤ 4294967294
  case neg => exact wide_out1 L A B t now more F w n0 (by omega)
  by_cases n2 : 0 ≤ A
  case neg => exact wide_out2 L A B t now more F w n0 n1 (by omega)
  by_cases n3 : 0 ≤ B
  case neg => exact wide_out3 L A B t now more F w n0 n1 n2 (by omega)
  by_cases n4 : A ≤ 4294967294 - more
  case neg => exact wide_out4 L A B t now more F w n0 n1 n2 n3 (by omega)
  by_cases n5 : B ≤ 4294967294 - more
  case neg => exact wide_out5 L A B t now more F w n0 n1 n2 n3 n4 (by omega)
  by_cases hE : takeE L A B t now F = 0
  · exact wide_yes L A B t now more F w n0 n1 n2 n3 n4 n5 hE
  · exact wide_no L A B t now more F w n0 n1 n2 n3 n4 n5 (by simpa using hE)
end Go.Proofs.Ythhjiakbhobphaa
