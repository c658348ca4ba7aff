/- One: two pieces held against each other. -/
import Derived.Test.YtiognapakadggaaRef1
namespace Go.Proofs.Ytiognapakadggaa
open Go.RowKit

set_option maxRecDepth 100000 in
set_option maxHeartbeats 2000000 in
theorem one_fr (f1 t1 f2 t2 : Int) (A1 A2 : Option Addr) (n1 n2 c1 c2 : Nat) (b1 b2 : Bool) (w : World)
    
    (h : (f1 == f2) = false) : Calls Try.prog 12 #[.agg #[.int .i64 f1, .int .i64 t1, .slice A1 n1 c1, .bool b1], .agg #[.int .i64 f2, .int .i64 t2, .slice A2 n2 c2, .bool b2]] w (SaysB w false) := by
  go_enter Try.func12, Try.ntmps12
  go_wp2
  refine bodyPost_ret (v := .bool false) (by simp [results, Try.results12, go_sem]) rfl ⟨rfl, ?_⟩
  exact ((Below.refl _ _).alloc (Nat.le_refl _) _).alloc (by simp) _

set_option maxRecDepth 100000 in
set_option maxHeartbeats 2000000 in
theorem one_to (f1 t1 f2 t2 : Int) (A1 A2 : Option Addr) (n1 n2 c1 c2 : Nat) (b1 b2 : Bool) (w : World)
    
    (h : (f1 == f2) = true) (h' : (t1 == t2) = false) : Calls Try.prog 12 #[.agg #[.int .i64 f1, .int .i64 t1, .slice A1 n1 c1, .bool b1], .agg #[.int .i64 f2, .int .i64 t2, .slice A2 n2 c2, .bool b2]] w (SaysB w false) := by
  go_enter Try.func12, Try.ntmps12
  go_wp2
  refine bodyPost_ret (v := .bool false) (by simp [results, Try.results12, go_sem]) rfl ⟨rfl, ?_⟩
  exact ((Below.refl _ _).alloc (Nat.le_refl _) _).alloc (by simp) _

set_option maxRecDepth 100000 in
set_option maxHeartbeats 2000000 in
theorem one_s (f1 t1 f2 t2 : Int) (A1 A2 : Option Addr) (n1 n2 c1 c2 : Nat) (b1 b2 : Bool) (s1 s2 : ByteArray) (w : World)
    (hv1 : ∀ o1 o2 : Obj, (convert 27 9 (.slice A1 n1 c1)).run Try.prog ((w.alloc o1).alloc o2) = .ok (.string s1) ((w.alloc o1).alloc o2))
    (hv2 : ∀ o1 o2 : Obj, (convert 27 9 (.slice A2 n2 c2)).run Try.prog ((w.alloc o1).alloc o2) = .ok (.string s2) ((w.alloc o1).alloc o2))
    (h : (f1 == f2) = true) (h' : (t1 == t2) = true) (h3 : ¬ s1.toList = s2.toList) : Calls Try.prog 12 #[.agg #[.int .i64 f1, .int .i64 t1, .slice A1 n1 c1, .bool b1], .agg #[.int .i64 f2, .int .i64 t2, .slice A2 n2 c2, .bool b2]] w (SaysB w false) := by
  go_enter Try.func12, Try.ntmps12
  go_wp2
  refine bodyPost_ret (v := .bool false) (by simp [results, Try.results12, go_sem]) rfl ⟨rfl, ?_⟩
  exact ((Below.refl _ _).alloc (Nat.le_refl _) _).alloc (by simp) _

set_option maxRecDepth 100000 in
set_option maxHeartbeats 2000000 in
theorem one_b (f1 t1 f2 t2 : Int) (A1 A2 : Option Addr) (n1 n2 c1 c2 : Nat) (b1 b2 : Bool) (s1 s2 : ByteArray) (w : World)
    (hv1 : ∀ o1 o2 : Obj, (convert 27 9 (.slice A1 n1 c1)).run Try.prog ((w.alloc o1).alloc o2) = .ok (.string s1) ((w.alloc o1).alloc o2))
    (hv2 : ∀ o1 o2 : Obj, (convert 27 9 (.slice A2 n2 c2)).run Try.prog ((w.alloc o1).alloc o2) = .ok (.string s2) ((w.alloc o1).alloc o2))
    (h : (f1 == f2) = true) (h' : (t1 == t2) = true) (h3 : s1.toList = s2.toList) : Calls Try.prog 12 #[.agg #[.int .i64 f1, .int .i64 t1, .slice A1 n1 c1, .bool b1], .agg #[.int .i64 f2, .int .i64 t2, .slice A2 n2 c2, .bool b2]] w (SaysB w (b1 == b2)) := by
  go_enter Try.func12, Try.ntmps12
  go_wp2
  refine bodyPost_ret (v := .bool (b1 == b2)) (by simp [results, Try.results12, go_sem]) rfl ⟨rfl, ?_⟩
  exact ((Below.refl _ _).alloc (Nat.le_refl _) _).alloc (by simp) _

def oneB (a b : Fl) : Bool := (a.fr == b.fr) && (a.to == b.to) && (a.b == b.b) && (a.bad == b.bad)

theorem strOf_list (b : List UInt8) : (strOf b).toList = b := by rw [ByteArray.toList_eq]; simp [strOf]

theorem one_any (a b : Fl) (A1 A2 : Option Addr) (c1 c2 : Nat) (w : World) (h1 : BytesAt w (.slice A1 a.b.length c1) a.b) (h2 : BytesAt w (.slice A2 b.b.length c2) b.b) :
    Calls Try.prog 12 #[.agg #[.int .i64 a.fr, .int .i64 a.to, .slice A1 a.b.length c1, .bool a.bad], .agg #[.int .i64 b.fr, .int .i64 b.to, .slice A2 b.b.length c2, .bool b.bad]] w (SaysB w (oneB a b)) := by
  have x2 : ∀ o1 o2 : Obj, Below w.heap.size w ((w.alloc o1).alloc o2) := fun o1 o2 => ((Below.refl _ _).alloc (Nat.le_refl _) o1).alloc (by simp) o2
  have v1 : ∀ o1 o2 : Obj, (convert 27 9 (.slice A1 a.b.length c1)).run Try.prog ((w.alloc o1).alloc o2) = .ok (.string (strOf a.b)) ((w.alloc o1).alloc o2) := fun o1 o2 => conv_bytes (h1.later (x2 o1 o2))
  have v2 : ∀ o1 o2 : Obj, (convert 27 9 (.slice A2 b.b.length c2)).run Try.prog ((w.alloc o1).alloc o2) = .ok (.string (strOf b.b)) ((w.alloc o1).alloc o2) := fun o1 o2 => conv_bytes (h2.later (x2 o1 o2))
  cases e1 : (a.fr == b.fr) with
  | false =>
    have : oneB a b = false := by simp [oneB, e1]
    rw [this]
    exact one_fr _ _ _ _ _ _ _ _ _ _ _ _ w e1
  | true => cases e2 : (a.to == b.to) with
    | false =>
      have : oneB a b = false := by simp [oneB, e1, e2]
      rw [this]
      exact one_to _ _ _ _ _ _ _ _ _ _ _ _ w e1 e2
    | true =>
      by_cases e3 : a.b = b.b
      · have : oneB a b = (a.bad == b.bad) := by simp [oneB, e1, e2, e3]
        rw [this]
        exact one_b _ _ _ _ _ _ _ _ _ _ _ _ _ _ w v1 v2 e1 e2 (by rw [strOf_list, strOf_list, e3])
      · have : oneB a b = false := by simp [oneB, e1, e2, e3]
        rw [this]
        exact one_s _ _ _ _ _ _ _ _ _ _ _ _ _ _ w v1 v2 e1 e2 (by rw [strOf_list, strOf_list]; exact e3)
end Go.Proofs.Ytiognapakadggaa
