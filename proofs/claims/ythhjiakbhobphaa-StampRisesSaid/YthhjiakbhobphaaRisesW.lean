/- StampRises, walked: any windows, any messages: the law answers true, and writes into new memory alone. -/
import Derived.Test.YthhjiakbhobphaaAwake
import Derived.Test.YthhjiakbhobphaaTakeX
import Derived.Test.YthhjiakbhobphaaMem
import Derived.Test.YthhjiakbhobphaaCame
import Derived.Deep.RegionHeld3
import Derived.Deep.LoopGhost
import Derived.Deep.DeepCutAuto
import Derived.Deep.Light
namespace Go.Proofs.Ythhjiakbhobphaa
open Go.RowKit

set_option maxHeartbeats 2000000 in
theorem rises_arg (ahead behind : Int) (A : Option Addr) (n c : Nat) (w : World) (h : isTime ahead = false ∨ isTime behind = false) :
   Calls Try.prog 4 #[.int .i64 ahead, .int .i64 behind, .slice A n c] w fun e w' => e = .returned (.bool true) ∧ Below w.heap.size w w' := by
  have H := Lib.hid h
  clear h
  go_enter Try.func4, Try.ntmps4
  go_wp2_with fail
  refine (awake_any _).mono ?_
  rintro e w1 ⟨rfl, hb1⟩
  have z1 := hb1.size
  try simp at z1
  have g1 : Below w.heap.size w w1 := by
    refine below_from ?_ hb1
    repeat (first | exact (Below.refl _ _) | refine Below.setCell ?_ (by first | omega | (simp; done) | (simp; omega)) _ | refine Below.alloc ?_ (by first | omega | (simp; done) | (simp; omega)) _ | refine Below.drew ?_)
  have q1 := g1.size
  go_wp2_with fail
  refine (new_arg _ _ _ H.out).mono ?_
  rintro e w2 ⟨rfl, hb2⟩
  have z2 := hb2.size
  try simp at z2
  have g2 : Below w.heap.size w w2 := by
    refine below_from ?_ hb2
    repeat (first | exact g1 | refine Below.setCell ?_ (by first | omega | (simp; done) | (simp; omega)) _ | refine Below.alloc ?_ (by first | omega | (simp; done) | (simp; omega)) _ | refine Below.drew ?_)
  have q2 := g2.size
  go_wp2
  go_ret
  refine ⟨rfl, ?_⟩
  repeat (first | exact g2 | refine Below.setCell ?_ (by first | omega | (simp; done) | (simp; omega)) _ | refine Below.alloc ?_ (by first | omega | (simp; done) | (simp; omega)) _ | refine Below.drew ?_)

set_option maxHeartbeats 2000000 in
theorem rises_long (ahead behind : Int) (A : Option Addr) (n c : Nat) (w : World) (h1 : isTime ahead = true) (h2 : isTime behind = true) (h3 : 200 < n) (h4 : n ≤ 9223372036854775807) :
   Calls Try.prog 4 #[.int .i64 ahead, .int .i64 behind, .slice A n c] w fun e w' => e = .returned (.bool true) ∧ Below w.heap.size w w' := by
  have H1 := Lib.hid h1
  have H2 := Lib.hid h2
  have h5 : (200 : Int) < (n : Int) := by omega
  clear h1 h2
  go_enter Try.func4, Try.ntmps4
  go_wp2_with fail
  refine (awake_any _).mono ?_
  rintro e w1 ⟨rfl, hb1⟩
  have z1 := hb1.size
  try simp at z1
  have g1 : Below w.heap.size w w1 := by
    refine below_from ?_ hb1
    repeat (first | exact (Below.refl _ _) | refine Below.setCell ?_ (by first | omega | (simp; done) | (simp; omega)) _ | refine Below.alloc ?_ (by first | omega | (simp; done) | (simp; omega)) _ | refine Below.drew ?_)
  have q1 := g1.size
  go_wp2_with fail
  refine (new_ok _ _ _ H1.out H2.out).mono ?_
  rintro e w2 ⟨rfl, hb2⟩
  have z2 := hb2.size
  try simp at z2
  have g2 : Below w.heap.size w w2 := by
    refine below_from ?_ hb2
    repeat (first | exact g1 | refine Below.setCell ?_ (by first | omega | (simp; done) | (simp; omega)) _ | refine Below.alloc ?_ (by first | omega | (simp; done) | (simp; omega)) _ | refine Below.drew ?_)
  have q2 := g2.size
  go_wp2
  go_ret
  refine ⟨rfl, ?_⟩
  repeat (first | exact g2 | refine Below.setCell ?_ (by first | omega | (simp; done) | (simp; omega)) _ | refine Below.alloc ?_ (by first | omega | (simp; done) | (simp; omega)) _ | refine Below.drew ?_)

set_option maxHeartbeats 2000000 in
theorem rises_none (ahead behind : Int) (A : Option Addr) (c : Nat) (w : World) (h1 : isTime ahead = true) (h2 : isTime behind = true) :
   Calls Try.prog 4 #[.int .i64 ahead, .int .i64 behind, .slice A 0 c] w fun e w' => e = .returned (.bool true) ∧ Below w.heap.size w w' := by
  have H1 := Lib.hid h1
  have H2 := Lib.hid h2
  clear h1 h2
  go_enter Try.func4, Try.ntmps4
  go_wp2_with fail
  refine (awake_any _).mono ?_
  rintro e w1 ⟨rfl, hb1⟩
  have z1 := hb1.size
  try simp at z1
  have g1 : Below w.heap.size w w1 := by
    refine below_from ?_ hb1
    repeat (first | exact (Below.refl _ _) | refine Below.setCell ?_ (by first | omega | (simp; done) | (simp; omega)) _ | refine Below.alloc ?_ (by first | omega | (simp; done) | (simp; omega)) _ | refine Below.drew ?_)
  have q1 := g1.size
  go_wp2_with fail
  refine (new_ok _ _ _ H1.out H2.out).mono ?_
  rintro e w2 ⟨rfl, hb2⟩
  have z2 := hb2.size
  try simp at z2
  have g2 : Below w.heap.size w w2 := by
    refine below_from ?_ hb2
    repeat (first | exact g1 | refine Below.setCell ?_ (by first | omega | (simp; done) | (simp; omega)) _ | refine Below.alloc ?_ (by first | omega | (simp; done) | (simp; omega)) _ | refine Below.drew ?_)
  have q2 := g2.size
  go_wp2
  refine wp_loop_rounds 1 ?_
  rw [rounds_succ]
  go_wp2
  go_ret
  refine ⟨rfl, ?_⟩
  repeat (first | exact g2 | refine Below.setCell ?_ (by first | omega | (simp; done) | (simp; omega)) _ | refine Below.alloc ?_ (by first | omega | (simp; done) | (simp; omega)) _ | refine Below.drew ?_)

/-- What stands behind the taking of a time: the new stamp lies in a block of its own. -/
def TookR (w : World) (bs : Nat) (ahead behind L : Int) (F : Bool) (x1 x2 x3 e : Int) (p q : Value) (wx : World) : Prop :=
  ∃ g : Nat, p = .pointer (some ⟨g, 0, none⟩) ∧ q = .int .i64 e ∧ HasBlk wx g 23 #[.int .i64 x1, .int .i64 x2, .int .i64 x3, .bool false] ∧ HasBlk wx bs 23 #[.int .i64 L, .int .i64 ahead, .int .i64 behind, .bool F] ∧ g ≠ bs ∧ Below w.heap.size w wx
/-- What stands behind the test for a release. -/
def FreedR (w : World) (bs : Nat) (ahead behind L : Int) (F : Bool) (f : Value) (wx : World) : Prop :=
  f = .bool F ∧ HasBlk wx bs 23 #[.int .i64 L, .int .i64 ahead, .int .i64 behind, .bool F] ∧ Below w.heap.size w wx

set_option maxRecDepth 100000 in
set_option maxHeartbeats 8000000 in
theorem rises_loop (ahead behind : Int) (b off n c : Nat) (T Nw : Nat → Int) (Fr : Nat → Bool) (w : World) (h1 : isTime ahead = true) (h2 : isTime behind = true) (h3 : n ≤ 200)
    (hb : b < w.heap.size) (ct : ∀ i, i < n → w.cell? ⟨b, off + i * 3, none⟩ = some (.int .i64 (T i))) (cn : ∀ i, i < n → w.cell? ⟨b, off + i * 3 + 1, none⟩ = some (.int .i64 (Nw i))) (cf : ∀ i, i < n → w.cell? ⟨b, off + i * 3 + 2, none⟩ = some (.bool (Fr i))) :
   Calls Try.prog 4 #[.int .i64 ahead, .int .i64 behind, .slice (some ⟨b, off, none⟩) n c] w fun e w' => e = .returned (.bool true) ∧ Below w.heap.size w w' := by
  have H1 := Lib.hid h1
  have H2 := Lib.hid h2
  have CT := Lib.hid ct
  have CN := Lib.hid cn
  have CF := Lib.hid cf
  clear ct cn cf
  obtain ⟨a1, a2⟩ := isTime_t.1 h1
  obtain ⟨b1, b2⟩ := isTime_t.1 h2
  clear h1 h2
  go_enter Try.func4, Try.ntmps4
  go_wp2_with fail
  refine (awake_any _).mono ?_
  rintro e w1 ⟨rfl, hb1⟩
  have z1 := hb1.size
  try simp at z1
  have g1 : Below w.heap.size w w1 := by
    refine below_from ?_ hb1
    repeat (first | exact (Below.refl _ _) | refine Below.setCell ?_ (by first | omega | (simp; done) | (simp; omega)) _ | refine Below.alloc ?_ (by first | omega | (simp; done) | (simp; omega)) _ | refine Below.drew ?_)
  have q1 := g1.size
  go_wp2_with fail
  refine (new_ok _ _ _ H1.out H2.out).mono ?_
  rintro e w2 ⟨rfl, hb2⟩
  have z2 := hb2.size
  try simp at z2
  have g2 : Below w.heap.size w w2 := by
    refine below_from ?_ hb2
    repeat (first | exact g1 | refine Below.setCell ?_ (by first | omega | (simp; done) | (simp; omega)) _ | refine Below.alloc ?_ (by first | omega | (simp; done) | (simp; omega)) _ | refine Below.drew ?_)
  have q2 := g2.size
  go_wp2
  obtain ⟨bs, hbs⟩ : ∃ bs, bs = w2.heap.size := ⟨_, rfl⟩
  rw [← hbs]
  have hbb : b ≠ bs := by omega
  have HBS := Lib.hid hbs
  have HN := HasBlk.fresh w2 23 #[.int .i64 (-1), .int .i64 ahead, .int .i64 behind, .bool false]
  rw [← hbs] at HN
  have hbz : bs < (w2.alloc (.cells #[.int .i64 (-1), .int .i64 ahead, .int .i64 behind, .bool false] 23)).heap.size := HN.lt
  have hwb : w.heap.size ≤ bs := by omega
  clear hbs
  go_loopg [10, 11, 12] n (fun gk v f i wr => ∃ (k : Nat) (L : Int) (F : Bool), k + gk = n ∧ v = .int .i64 L ∧ f = .bool F ∧ i = .int .i64 k ∧ HasBlk wr bs 23 #[.int .i64 L, .int .i64 ahead, .int .i64 behind, .bool F] ∧ Below w.heap.size w wr)
  case atStart => exact ⟨0, -1, false, by omega, rfl, rfl, rfl, HN, g2.alloc q2 _⟩
  case round =>
    obtain ⟨k, L, F, hk, rfl, rfl, rfl, hS, gr⟩ := hrel
    have hk' : k ≤ n := by omega
    have HK := Lib.hid hk
    clear hk
    have gz := gr.size
    by_cases hlt : k < n
    case neg =>
      obtain rfl : k = n := by omega
      go_wp2
      go_ret
      exact ⟨rfl, gr⟩
    case pos =>
      have q0 := (gr.cell (p := ⟨b, off + k * 3, none⟩) hb).trans (CT.out k hlt)
      have q1 := (gr.cell (p := ⟨b, off + k * 3 + 1, none⟩) hb).trans (CN.out k hlt)
      have q2' := (gr.cell (p := ⟨b, off + k * 3 + 2, none⟩) hb).trans (CF.out k hlt)
      have s0 := hS.cell 0
      have sf0 := hS.free 0
      have s1 := hS.cell 1
      have sf1 := hS.free 1
      have s2 := hS.cell 2
      have sf2 := hS.free 2
      have s3 := hS.cell 3
      have sf3 := hS.free 3
      simp only [List.getElem?_toArray, List.getElem?_cons_zero, List.getElem?_cons_succ] at s0 s1 s2 s3
      have sz := hS.lt
      go_upto_if 44 with (fail)
      go_cut [11] (FreedR w bs ahead behind L (F || Fr k))
      case first =>
        cases hF : Fr k
        case false =>
          go_wp2_with fail
          go_meet
          case rel => exact ⟨by rw [hF]; simp, by rw [hF]; simpa using hS, gr⟩
        case true =>
          go_wp2_with fail
          refine (release_any _ _ _ _ _).mono ?_
          rintro e w3 ⟨rfl, hb3⟩
          have hS3 := hS.later hb3
          have d0 := hS3.cell 0
          have df0 := hS3.free 0
          have d1 := hS3.cell 1
          have df1 := hS3.free 1
          have d2 := hS3.cell 2
          have df2 := hS3.free 2
          have d3 := hS3.cell 3
          have df3 := hS3.free 3
          simp only [List.getElem?_toArray, List.getElem?_cons_zero, List.getElem?_cons_succ] at d0 d1 d2 d3
          have dz := hS3.lt
          go_wp2_with fail
          go_meet
          case rel => exact ⟨by rw [hF]; simp, by rw [hF]; simpa using (((hS3.put 0 (.int .i64 L)).put 1 (.int .i64 ahead)).put 2 (.int .i64 behind)).put 3 (.bool true), by repeat (first | exact below_on gz gr hb3 | refine Below.setCell ?_ (by have := hb3.size; omega) _)⟩
      case rest =>
        obtain ⟨rfl, hC, gc⟩ := hcut
        clear s0 s1 s2 s3 sf0 sf1 sf2 sf3 sz hS q0 q1 q2' gz gr
        obtain ⟨F', hF'⟩ : ∃ F', F' = (F || Fr k) := ⟨_, rfl⟩
        rw [← hF'] at hC ⊢
        clear hF'
        have gz := gc.size
        have q0 := (gc.cell (p := ⟨b, off + k * 3, none⟩) hb).trans (CT.out k hlt)
        have q1 := (gc.cell (p := ⟨b, off + k * 3 + 1, none⟩) hb).trans (CN.out k hlt)
        have s0 := hC.cell 0
        have sf0 := hC.free 0
        have s1 := hC.cell 1
        have sf1 := hC.free 1
        have s2 := hC.cell 2
        have sf2 := hC.free 2
        have s3 := hC.cell 3
        have sf3 := hC.free 3
        simp only [List.getElem?_toArray, List.getElem?_cons_zero, List.getElem?_cons_succ] at s0 s1 s2 s3
        have sz := hC.lt
        have hbc : b < wc.heap.size := by omega
        go_upto_region 13 with (fail)
        go_cut [13, 14] (TookR w bs ahead behind L F' (takeX L ahead behind (T k) (Nw k) F' (T k)) (takeX L ahead behind (T k) (Nw k) F' ahead) (takeX L ahead behind (T k) (Nw k) F' behind) (takeE L ahead behind (T k) (Nw k) F'))
        case first =>
          go_region_held3 (fun w' => w'.cell? ⟨bs, 0, none⟩ = some (.int .i64 L) ∧ w'.cell? ⟨bs, 1, none⟩ = some (.int .i64 ahead) ∧ w'.cell? ⟨bs, 2, none⟩ = some (.int .i64 behind) ∧ w'.cell? ⟨bs, 3, none⟩ = some (.bool F') ∧ w'.cell? ⟨b, off + k * 3, none⟩ = some (.int .i64 (T k)) ∧ w'.cell? ⟨b, off + k * 3 + 1, none⟩ = some (.int .i64 (Nw k)))
            ((refine ⟨?_, ?_, ?_, ?_, ?_, ?_⟩ <;> repeat (first | (with_reducible assumption) | (with_reducible refine keep_drew ?_) | (with_reducible refine keep_alloc ?_) | (with_reducible refine keep_set (by dsimp only; omega) ?_) | (with_reducible refine cell_later hb3 ?_))))
            (first | (go_at_call 9; refine (take_any _ _ _ _ _ _ _).mono ?_; rintro e w3 ⟨rfl, hb3⟩; (try (have hN3 := HasBlk.later (HasBlk.drawn (HasBlk.fresh wc 23 #[.int .i64 0, .int .i64 0, .int .i64 0, .bool false])) hb3; have n0 := hN3.cell 0; have n1 := hN3.cell 1; have n2 := hN3.cell 2; have n3 := hN3.cell 3; simp only [List.getElem?_toArray, List.getElem?_cons_zero, List.getElem?_cons_succ] at n0 n1 n2 n3; have nf0 := hN3.free 0; have nf1 := hN3.free 1; have nf2 := hN3.free 2; have nf3 := hN3.free 3))))
          · go_wp2_with fail
            go_meet
            case rel =>
              have hz3 := hb3.size
              have hzc : wc.drew.heap.size = wc.heap.size := rfl
              exact ⟨_, rfl, rfl, HasBlk.fresh _ _ _, (HasBlk.later (HasBlk.drawn hC) hb3).past _, by omega, Below.alloc (below_on (W := wc.drew) gz gc.drew hb3) (by omega) _⟩
          · go_wp2_with fail
            go_meet
            case rel =>
              have hz3 := hb3.size
              have hnb : bs ≠ wc.heap.size := by omega
              have hT := (((hN3.put 0 (.int .i64 (takeX L ahead behind (T k) (Nw k) F' (T k)))).put 1 (.int .i64 (takeX L ahead behind (T k) (Nw k) F' ahead))).put 2 (.int .i64 (takeX L ahead behind (T k) (Nw k) F' behind))).put 3 (.bool false)
              have hB3 := HasBlk.later (HasBlk.drawn (HasBlk.past hC (.cells #[.int .i64 0, .int .i64 0, .int .i64 0, .bool false] 23))) hb3
              exact ⟨_, rfl, rfl, by simpa using hT, (((hB3.off hnb _).off hnb _).off hnb _).off hnb _, fun e => hnb e.symm,
                Below.setCell (Below.setCell (Below.setCell (Below.setCell (below_on (W := (wc.alloc (.cells #[.int .i64 0, .int .i64 0, .int .i64 0, .bool false] 23)).drew) ((gc.alloc gz _).drew).size (gc.alloc gz _).drew hb3) gz _) gz _) gz _) gz _⟩
        case rest =>
          obtain ⟨g, rfl, rfl, hG, hS, hgs, gx⟩ := hcut
          clear s0 s1 s2 s3 sf0 sf1 sf2 sf3 sz hC q0 q1 gc gz hbc
          have gz := gx.size
          have q0 := (gx.cell (p := ⟨b, off + k * 3, none⟩) hb).trans (CT.out k hlt)
          have q1 := (gx.cell (p := ⟨b, off + k * 3 + 1, none⟩) hb).trans (CN.out k hlt)
          have s0 := hS.cell 0
          have sf0 := hS.free 0
          have s1 := hS.cell 1
          have sf1 := hS.free 1
          have s2 := hS.cell 2
          have sf2 := hS.free 2
          have s3 := hS.cell 3
          have sf3 := hS.free 3
          simp only [List.getElem?_toArray, List.getElem?_cons_zero, List.getElem?_cons_succ] at s0 s1 s2 s3
          have sz := hS.lt
          have t0 := hG.cell 0
          have tf0 := hG.free 0
          have t1 := hG.cell 1
          have tf1 := hG.free 1
          have t2 := hG.cell 2
          have tf2 := hG.free 2
          have t3 := hG.cell 3
          have tf3 := hG.free 3
          simp only [List.getElem?_toArray, List.getElem?_cons_zero, List.getElem?_cons_succ] at t0 t1 t2 t3
          have tz := hG.lt
          by_cases hE : takeE L ahead behind (T k) (Nw k) F' = 0
          case pos =>
            obtain ⟨em, et, en, ek⟩ := takeE_zero hE
            obtain ⟨t1', t2'⟩ := isTime_t.1 et
            obtain ⟨n1, n2⟩ := isTime_t.1 en
            obtain ⟨⟨k1, k2⟩, k3⟩ : (Nw k - behind ≤ T k ∧ T k ≤ Nw k + ahead) ∧ (F' = true ∨ L < T k) := by simpa [takeB, and_assoc] using ek
            have X : ∀ x, takeX L ahead behind (T k) (Nw k) F' x = x := fun x => by simp [takeX, hE]
            have X1 := X (T k)
            have X2 := X ahead
            have X3 := X behind
            obtain ⟨l1, l2⟩ := (may_bd em).2.2.2.2
            clear em et en ek X
            have c1 : decide (Nw k + ahead < T k) = false := by simpa using k2
            have c2 : decide (T k < Nw k - behind) = false := by simpa using k1
            by_cases hl : T k ≤ L
            case pos =>
              have hF' : F' = true := by rcases k3 with h | h; exact h; omega
              subst hF'
              clear k3
              go_wp2_with fail
              go_quiet (fail)
              go_wp2
              go_roundg (n - k - 1)
              case measure => have := HK.out; omega
              case rel => exact ⟨k + 1, T k, false, by omega, rfl, rfl, by go_num, by simpa using (((HasBlk.put (hS.drawnN nq) 0 (.int .i64 (T k))).put 1 (.int .i64 ahead)).put 2 (.int .i64 behind)).put 3 (.bool false), Below.setCell (Below.setCell (Below.setCell (Below.setCell (drewN_below gx nq) hwb _) hwb _) hwb _) hwb _⟩
            case neg =>
              have hl' : L < T k := by omega
              have hl2 : decide (T k ≤ L) = false := by simpa using hl
              clear k3 hl
              cases F'
              all_goals
                go_wp2_with fail
                go_quiet (fail)
                go_wp2
                go_roundg (n - k - 1)
                case measure => have := HK.out; omega
                case rel => exact ⟨k + 1, T k, false, by omega, rfl, rfl, by go_num, by simpa using (((HasBlk.put (hS.drawnN nq) 0 (.int .i64 (T k))).put 1 (.int .i64 ahead)).put 2 (.int .i64 behind)).put 3 (.bool false), Below.setCell (Below.setCell (Below.setCell (Below.setCell (drewN_below gx nq) hwb _) hwb _) hwb _) hwb _⟩
          case neg =>
            have hE' : (takeE L ahead behind (T k) (Nw k) F' != 0) = true := by simpa using hE
            have X1 : takeX L ahead behind (T k) (Nw k) F' (T k) = 0 := by simp [takeX, hE]
            have X2 : takeX L ahead behind (T k) (Nw k) F' ahead = 0 := by simp [takeX, hE]
            have X3 : takeX L ahead behind (T k) (Nw k) F' behind = 0 := by simp [takeX, hE]
            clear hE
            go_wp2
            go_roundg (n - k - 1)
            case measure => have := HK.out; omega
            case rel => exact ⟨k + 1, L, F', by omega, rfl, rfl, by go_num, hS, gx⟩

theorem rises_any (ahead behind : Int) (A : Option Addr) (n c : Nat) (f : Nat → Int × Int × Bool) (w : World) (hn : n ≤ 9223372036854775807)
    (hc : 0 < n → ∃ b off, A = some ⟨b, off, none⟩ ∧ b < w.heap.size ∧ ∀ i, i < n → CameAt w b off i (f i)) :
   Calls Try.prog 4 #[.int .i64 ahead, .int .i64 behind, .slice A n c] w fun e w' => e = .returned (.bool true) ∧ Below w.heap.size w w' := by
  by_cases h1 : isTime ahead = true
  · by_cases h2 : isTime behind = true
    · by_cases h3 : 200 < n
      · exact rises_long ahead behind A n c w h1 h2 h3 hn
      · rcases Nat.eq_zero_or_pos n with rfl | hp
        · exact rises_none ahead behind A c w h1 h2
        · obtain ⟨b, off, rfl, hb, hf⟩ := hc hp
          exact rises_loop ahead behind b off n c (fun i => (f i).1) (fun i => (f i).2.1) (fun i => (f i).2.2) w h1 h2 (by omega) hb (fun i hi => (hf i hi).1) (fun i hi => (hf i hi).2.1) (fun i hi => (hf i hi).2.2)
    · exact rises_arg ahead behind A n c w (.inr (Bool.eq_false_iff.2 h2))
  · exact rises_arg ahead behind A n c w (.inl (Bool.eq_false_iff.2 h1))
end Go.Proofs.Ythhjiakbhobphaa
