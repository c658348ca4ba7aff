/- StampOnce, walked: any windows, any messages: the law answers true, and writes into new memory alone. -/
import Derived.Test.YthhjiakbhobphaaAwake
import Derived.Test.YthhjiakbhobphaaTakeX
import Derived.Test.YthhjiakbhobphaaMem
import Derived.Test.YthhjiakbhobphaaCame
import Derived.Deep.RegionHeld3
import Derived.Deep.LoopGhost
import Derived.Deep.DeepCutAuto
import Derived.Deep.QuietTactic
import Derived.BigQuiet
namespace Go.Proofs.Ythhjiakbhobphaa
open Go.RowKit

set_option maxHeartbeats 2000000 in
theorem once_arg (ahead behind : Int) (A : Option Addr) (n c : Nat) (w : World) (h : isTime ahead = false ∨ isTime behind = false) :
   Calls Try.prog 5 #[.int .i64 ahead, .int .i64 behind, .slice A n c] w fun e w' => e = .returned (.bool true) ∧ Below w.heap.size w w' := by
  have H := Lib.hid h
  clear h
  go_enter Try.func5, Try.ntmps5
  go_wp2_with fail
  refine (awake_any _).mono ?_
  rintro e w1 ⟨rfl, hb1⟩
  have z1 := hb1.size
  try simp at z1
  have g1 : Below w.heap.size w w1 := by
    refine below_from ?_ hb1
    repeat (first | exact (Below.refl _ _) | refine Below.setCell ?_ (by first | omega | (simp; done) | (simp; omega)) _ | refine Below.alloc ?_ (by first | omega | (simp; done) | (simp; omega)) _ | refine Below.drew ?_)
  have q1 := g1.size
  go_wp2_with fail
  refine (new_arg _ _ _ H.out).mono ?_
  rintro e w2 ⟨rfl, hb2⟩
  have z2 := hb2.size
  try simp at z2
  have g2 : Below w.heap.size w w2 := by
    refine below_from ?_ hb2
    repeat (first | exact g1 | refine Below.setCell ?_ (by first | omega | (simp; done) | (simp; omega)) _ | refine Below.alloc ?_ (by first | omega | (simp; done) | (simp; omega)) _ | refine Below.drew ?_)
  have q2 := g2.size
  go_wp2
  go_ret
  refine ⟨rfl, ?_⟩
  repeat (first | exact g2 | refine Below.setCell ?_ (by first | omega | (simp; done) | (simp; omega)) _ | refine Below.alloc ?_ (by first | omega | (simp; done) | (simp; omega)) _ | refine Below.drew ?_)

set_option maxHeartbeats 2000000 in
theorem once_long (ahead behind : Int) (A : Option Addr) (n c : Nat) (w : World) (h1 : isTime ahead = true) (h2 : isTime behind = true) (h3 : 200 < n) (h4 : n ≤ 9223372036854775807) :
   Calls Try.prog 5 #[.int .i64 ahead, .int .i64 behind, .slice A n c] w fun e w' => e = .returned (.bool true) ∧ Below w.heap.size w w' := by
  have H1 := Lib.hid h1
  have H2 := Lib.hid h2
  have h5 : (200 : Int) < (n : Int) := by omega
  clear h1 h2
  go_enter Try.func5, Try.ntmps5
  go_wp2_with fail
  refine (awake_any _).mono ?_
  rintro e w1 ⟨rfl, hb1⟩
  have z1 := hb1.size
  try simp at z1
  have g1 : Below w.heap.size w w1 := by
    refine below_from ?_ hb1
    repeat (first | exact (Below.refl _ _) | refine Below.setCell ?_ (by first | omega | (simp; done) | (simp; omega)) _ | refine Below.alloc ?_ (by first | omega | (simp; done) | (simp; omega)) _ | refine Below.drew ?_)
  have q1 := g1.size
  go_wp2_with fail
  refine (new_ok _ _ _ H1.out H2.out).mono ?_
  rintro e w2 ⟨rfl, hb2⟩
  have z2 := hb2.size
  try simp at z2
  have g2 : Below w.heap.size w w2 := by
    refine below_from ?_ hb2
    repeat (first | exact g1 | refine Below.setCell ?_ (by first | omega | (simp; done) | (simp; omega)) _ | refine Below.alloc ?_ (by first | omega | (simp; done) | (simp; omega)) _ | refine Below.drew ?_)
  have q2 := g2.size
  go_wp2
  go_ret
  refine ⟨rfl, ?_⟩
  repeat (first | exact g2 | refine Below.setCell ?_ (by first | omega | (simp; done) | (simp; omega)) _ | refine Below.alloc ?_ (by first | omega | (simp; done) | (simp; omega)) _ | refine Below.drew ?_)

set_option maxHeartbeats 2000000 in
theorem once_none (ahead behind : Int) (A : Option Addr) (c : Nat) (w : World) (h1 : isTime ahead = true) (h2 : isTime behind = true) :
   Calls Try.prog 5 #[.int .i64 ahead, .int .i64 behind, .slice A 0 c] w fun e w' => e = .returned (.bool true) ∧ Below w.heap.size w w' := by
  have H1 := Lib.hid h1
  have H2 := Lib.hid h2
  clear h1 h2
  go_enter Try.func5, Try.ntmps5
  go_wp2_with fail
  refine (awake_any _).mono ?_
  rintro e w1 ⟨rfl, hb1⟩
  have z1 := hb1.size
  try simp at z1
  have g1 : Below w.heap.size w w1 := by
    refine below_from ?_ hb1
    repeat (first | exact (Below.refl _ _) | refine Below.setCell ?_ (by first | omega | (simp; done) | (simp; omega)) _ | refine Below.alloc ?_ (by first | omega | (simp; done) | (simp; omega)) _ | refine Below.drew ?_)
  have q1 := g1.size
  go_wp2_with fail
  refine (new_ok _ _ _ H1.out H2.out).mono ?_
  rintro e w2 ⟨rfl, hb2⟩
  have z2 := hb2.size
  try simp at z2
  have g2 : Below w.heap.size w w2 := by
    refine below_from ?_ hb2
    repeat (first | exact g1 | refine Below.setCell ?_ (by first | omega | (simp; done) | (simp; omega)) _ | refine Below.alloc ?_ (by first | omega | (simp; done) | (simp; omega)) _ | refine Below.drew ?_)
  have q2 := g2.size
  go_wp2
  refine wp_loop_rounds 1 ?_
  rw [rounds_succ]
  go_wp2
  go_ret
  refine ⟨rfl, ?_⟩
  repeat (first | exact g2 | refine Below.setCell ?_ (by first | omega | (simp; done) | (simp; omega)) _ | refine Below.alloc ?_ (by first | omega | (simp; done) | (simp; omega)) _ | refine Below.drew ?_)

theorem Try.info3 : (Try.prog.info? 3).map (fun i => (i.zero, i.size, i.bytes)) = some (some (.int .i64 0), 1, 8) := by kernel_rfl

/-- What stands behind the taking of a time: the new stamp lies in a block of its own; the times that were taken stay. -/
def TookO (w : World) (bs : Nat) (ahead behind L : Int) (v : Value) (xs : List Int) (x1 x2 x3 e : Int) (p q : Value) (wx : World) : Prop :=
  ∃ g : Nat, p = .pointer (some ⟨g, 0, none⟩) ∧ q = .int .i64 e ∧ HasBlk wx g 23 #[.int .i64 x1, .int .i64 x2, .int .i64 x3, .bool false] ∧ HasBlk wx bs 23 #[.int .i64 L, .int .i64 ahead, .int .i64 behind, .bool false] ∧ g ≠ bs ∧
    wx.ownsRow w.heap.size 3 1 v xs.length (xs.map (Value.int .i64)) ∧ Below w.heap.size w wx

theorem own_below {W w' : World} {base : Nat} {e : TypeId} {size : Nat} {v : Value} {n : Nat} {xs : List Value} (h : W.ownsRow base e size v n xs) (hb : Below W.heap.size W w') : w'.ownsRow base e size v n xs :=
  h.kept (row := none) ⟨hb.os, hb.tape, hb.output, hb.size, fun k hk _ => hb.block k hk⟩ (by cases v.ownBlock <;> simp)
theorem own_drewN {W : World} {base : Nat} {e : TypeId} {size : Nat} {v : Value} {n : Nat} {xs : List Value} (h : W.ownsRow base e size v n xs) (q : Nat) : (W.drewN q).ownsRow base e size v n xs := h
theorem own_ne {W : World} {base : Nat} {e : TypeId} {size : Nat} {v : Value} {n : Nat} {xs : List Value} (h : W.ownsRow base e size v n xs) {b : Nat} {t : TypeId} {cs : Array Value} (hb : HasBlk W b t cs) (hne : e ≠ t) : v.ownBlock ≠ some b := by
  rcases h.2 with ⟨rfl, _⟩ | ⟨g, cap, cur, rfl, _, hh, _⟩
  · simp [Value.ownBlock]
  · intro he
    obtain rfl : g = b := by simpa [Value.ownBlock] using he
    unfold HasBlk at hb
    rw [hh] at hb
    simp only [Option.some.injEq, Obj.cells.injEq] at hb
    exact hne hb.2.1
theorem own_ne_new {W : World} {base : Nat} {e : TypeId} {size : Nat} {v : Value} {n : Nat} {xs : List Value} (h : W.ownsRow base e size v n xs) {b : Nat} (hb : W.heap.size ≤ b) : v.ownBlock ≠ some b := by
  intro he
  have := (h.lt _ he).2
  omega
theorem HasBlk.grown {w w' : World} {b : Nat} {t : TypeId} {cs : Array Value} {row : Option Nat} (h : HasBlk w b t cs) (hg : w.grownBy w' row) (hne : row ≠ some b) : HasBlk w' b t cs := (hg.block b h.lt (fun e => hne e.symm)).trans h
theorem own_put {W : World} {base : Nat} {e : TypeId} {size : Nat} {v : Value} {n : Nat} {xs : List Value} (h : W.ownsRow base e size v n xs) {b : Nat} (hne : v.ownBlock ≠ some b) (i : Nat) (u : Value) : (W.setCell ⟨b, i, none⟩ u).ownsRow base e size v n xs :=
  ownsRow_setCell_other h hne u

set_option maxRecDepth 100000 in
set_option maxHeartbeats 8000000 in
theorem once_loop (ahead behind : Int) (b off n c : Nat) (T Nw : Nat → Int) (w : World) (h1 : isTime ahead = true) (h2 : isTime behind = true) (h3 : n ≤ 200)
    (hb : b < w.heap.size) (ct : ∀ i, i < n → w.cell? ⟨b, off + i * 3, none⟩ = some (.int .i64 (T i))) (cn : ∀ i, i < n → w.cell? ⟨b, off + i * 3 + 1, none⟩ = some (.int .i64 (Nw i))) :
   Calls Try.prog 5 #[.int .i64 ahead, .int .i64 behind, .slice (some ⟨b, off, none⟩) n c] w fun e w' => e = .returned (.bool true) ∧ Below w.heap.size w w' := by
  obtain ⟨i0, hi0, hz0, hz1, hz2⟩ := info_parts Try.info3
  have HI0 := Lib.hid hi0
  have HZ0 := Lib.hid hz0
  have HZ1 := Lib.hid hz1
  have HZ2 := Lib.hid hz2
  clear hi0 hz0 hz1 hz2
  have H1 := Lib.hid h1
  have H2 := Lib.hid h2
  have CT := Lib.hid ct
  have CN := Lib.hid cn
  clear ct cn
  obtain ⟨a1, a2⟩ := isTime_t.1 h1
  obtain ⟨b1, b2⟩ := isTime_t.1 h2
  clear h1 h2
  go_enter Try.func5, Try.ntmps5
  go_wp2_with fail
  refine (awake_any _).mono ?_
  rintro e w1 ⟨rfl, hb1⟩
  have z1 := hb1.size
  try simp at z1
  have g1 : Below w.heap.size w w1 := by
    refine below_from ?_ hb1
    repeat (first | exact (Below.refl _ _) | refine Below.setCell ?_ (by first | omega | (simp; done) | (simp; omega)) _ | refine Below.alloc ?_ (by first | omega | (simp; done) | (simp; omega)) _ | refine Below.drew ?_)
  have q1 := g1.size
  go_wp2_with fail
  refine (new_ok _ _ _ H1.out H2.out).mono ?_
  rintro e w2 ⟨rfl, hb2⟩
  have z2 := hb2.size
  try simp at z2
  have g2 : Below w.heap.size w w2 := by
    refine below_from ?_ hb2
    repeat (first | exact g1 | refine Below.setCell ?_ (by first | omega | (simp; done) | (simp; omega)) _ | refine Below.alloc ?_ (by first | omega | (simp; done) | (simp; omega)) _ | refine Below.drew ?_)
  have q2 := g2.size
  go_wp2
  obtain ⟨bs, hbs⟩ : ∃ bs, bs = w2.heap.size := ⟨_, rfl⟩
  rw [← hbs]
  have hbb : b ≠ bs := by omega
  have HN := HasBlk.fresh w2 23 #[.int .i64 (-1), .int .i64 ahead, .int .i64 behind, .bool false]
  rw [← hbs] at HN
  have hbz : bs < (w2.alloc (.cells #[.int .i64 (-1), .int .i64 ahead, .int .i64 behind, .bool false] 23)).heap.size := HN.lt
  have hwb : w.heap.size ≤ bs := by omega
  clear hbs
  go_loopg [10, 11] n (fun gk v i wr => ∃ (k : Nat) (L : Int) (xs : List Int), k + gk = n ∧ i = .int .i64 k ∧ xs.length ≤ k ∧ (∀ x ∈ xs, x ≤ L) ∧ wr.ownsRow w.heap.size 3 1 v xs.length (xs.map (Value.int .i64)) ∧ HasBlk wr bs 23 #[.int .i64 L, .int .i64 ahead, .int .i64 behind, .bool false] ∧ Below w.heap.size w wr)
  case atStart => exact ⟨0, -1, [], by omega, rfl, by simp, by simp, World.ownsRow_nil _ _ _ _, HN, g2.alloc q2 _⟩
  case round =>
    obtain ⟨k, L, xs, hk, rfl, hxk, hxs, hO, hS, gr⟩ := hrel
    have hk' : k ≤ n := by omega
    have HK := Lib.hid hk
    have HXS := Lib.hid hxs
    clear hk hxs
    have gz := gr.size
    by_cases hlt : k < n
    case neg =>
      obtain rfl : k = n := by omega
      go_wp2
      go_ret
      exact ⟨rfl, gr⟩
    case pos =>
      have q0 := (gr.cell (p := ⟨b, off + k * 3, none⟩) hb).trans (CT.out k hlt)
      have q1 := (gr.cell (p := ⟨b, off + k * 3 + 1, none⟩) hb).trans (CN.out k hlt)
      have s0 := hS.cell 0
      have sf0 := hS.free 0
      have s1 := hS.cell 1
      have sf1 := hS.free 1
      have s2 := hS.cell 2
      have sf2 := hS.free 2
      have s3 := hS.cell 3
      have sf3 := hS.free 3
      simp only [List.getElem?_toArray, List.getElem?_cons_zero, List.getElem?_cons_succ] at s0 s1 s2 s3
      have sz := hS.lt
      have hbc : b < wr.heap.size := by omega
      have HO := Lib.hid hO
      clear hO
      go_upto_region 9 with (fail)
      go_cut [12, 13] (TookO w bs ahead behind L u10 xs (takeX L ahead behind (T k) (Nw k) false (T k)) (takeX L ahead behind (T k) (Nw k) false ahead) (takeX L ahead behind (T k) (Nw k) false behind) (takeE L ahead behind (T k) (Nw k) false))
      case first =>
        go_region_held3 (fun w' => w'.cell? ⟨bs, 0, none⟩ = some (.int .i64 L) ∧ w'.cell? ⟨bs, 1, none⟩ = some (.int .i64 ahead) ∧ w'.cell? ⟨bs, 2, none⟩ = some (.int .i64 behind) ∧ w'.cell? ⟨bs, 3, none⟩ = some (.bool false) ∧ w'.cell? ⟨b, off + k * 3, none⟩ = some (.int .i64 (T k)) ∧ w'.cell? ⟨b, off + k * 3 + 1, none⟩ = some (.int .i64 (Nw k)))
          ((refine ⟨?_, ?_, ?_, ?_, ?_, ?_⟩ <;> repeat (first | (with_reducible assumption) | (with_reducible refine keep_drew ?_) | (with_reducible refine keep_alloc ?_) | (with_reducible refine keep_set (by dsimp only; omega) ?_) | (with_reducible refine cell_later hb3 ?_))))
          (first | (go_at_call 9; refine (take_any _ _ _ _ _ _ _).mono ?_; rintro e w3 ⟨rfl, hb3⟩; (try (have hN3 := HasBlk.later (HasBlk.drawn (HasBlk.fresh wr 23 #[.int .i64 0, .int .i64 0, .int .i64 0, .bool false])) hb3; have n0 := hN3.cell 0; have n1 := hN3.cell 1; have n2 := hN3.cell 2; have n3 := hN3.cell 3; simp only [List.getElem?_toArray, List.getElem?_cons_zero, List.getElem?_cons_succ] at n0 n1 n2 n3; have nf0 := hN3.free 0; have nf1 := hN3.free 1; have nf2 := hN3.free 2; have nf3 := hN3.free 3))))
        · go_wp2_with fail
          go_meet
          case rel =>
            have hz3 := hb3.size
            have hzc : wr.drew.heap.size = wr.heap.size := rfl
            exact ⟨_, rfl, rfl, HasBlk.fresh _ _ _, (HasBlk.later (HasBlk.drawn hS) hb3).past _, by omega, (own_below (W := wr.drew) HO.out hb3).alloc _, Below.alloc (below_on (W := wr.drew) gz gr.drew hb3) (by omega) _⟩
        · go_wp2_with fail
          go_meet
          case rel =>
            have hz3 := hb3.size
            have hnb : bs ≠ wr.heap.size := by omega
            have hT := (((hN3.put 0 (.int .i64 (takeX L ahead behind (T k) (Nw k) false (T k)))).put 1 (.int .i64 (takeX L ahead behind (T k) (Nw k) false ahead))).put 2 (.int .i64 (takeX L ahead behind (T k) (Nw k) false behind))).put 3 (.bool false)
            have hB3 := HasBlk.later (HasBlk.drawn (HasBlk.past hS (.cells #[.int .i64 0, .int .i64 0, .int .i64 0, .bool false] 23))) hb3
            have hO3 := own_below (W := (wr.alloc (.cells #[.int .i64 0, .int .i64 0, .int .i64 0, .bool false] 23)).drew) (HO.out.alloc _) hb3
            have hOn : u10.ownBlock ≠ some wr.heap.size := own_ne_new HO.out (Nat.le_refl _)
            exact ⟨_, rfl, rfl, by simpa using hT, (((hB3.off hnb _).off hnb _).off hnb _).off hnb _, fun e => hnb e.symm, own_put (own_put (own_put (own_put hO3 hOn _ _) hOn _ _) hOn _ _) hOn _ _,
              Below.setCell (Below.setCell (Below.setCell (Below.setCell (below_on (W := (wr.alloc (.cells #[.int .i64 0, .int .i64 0, .int .i64 0, .bool false] 23)).drew) ((gr.alloc gz _).drew).size (gr.alloc gz _).drew hb3) gz _) gz _) gz _) gz _⟩
      case rest =>
        obtain ⟨g, rfl, rfl, hG, hB, hgs, hO, gx⟩ := hcut
        clear s0 s1 s2 s3 sf0 sf1 sf2 sf3 sz hS q0 q1 gr gz hbc HO
        have gz := gx.size
        have q0 := (gx.cell (p := ⟨b, off + k * 3, none⟩) hb).trans (CT.out k hlt)
        have q1 := (gx.cell (p := ⟨b, off + k * 3 + 1, none⟩) hb).trans (CN.out k hlt)
        have s0 := hB.cell 0
        have sf0 := hB.free 0
        have s1 := hB.cell 1
        have sf1 := hB.free 1
        have s2 := hB.cell 2
        have sf2 := hB.free 2
        have s3 := hB.cell 3
        have sf3 := hB.free 3
        simp only [List.getElem?_toArray, List.getElem?_cons_zero, List.getElem?_cons_succ] at s0 s1 s2 s3
        have sz := hB.lt
        have t0 := hG.cell 0
        have tf0 := hG.free 0
        have t1 := hG.cell 1
        have tf1 := hG.free 1
        have t2 := hG.cell 2
        have tf2 := hG.free 2
        have t3 := hG.cell 3
        have tf3 := hG.free 3
        simp only [List.getElem?_toArray, List.getElem?_cons_zero, List.getElem?_cons_succ] at t0 t1 t2 t3
        have tz := hG.lt
        have HO := Lib.hid hO
        by_cases hE : takeE L ahead behind (T k) (Nw k) false = 0
        case pos =>
          obtain ⟨em, et, en, ek⟩ := takeE_zero hE
          obtain ⟨t1', t2'⟩ := isTime_t.1 et
          have k3 : L < T k := by
            have : (Nw k - behind ≤ T k ∧ T k ≤ Nw k + ahead) ∧ L < T k := by simpa [takeB, and_assoc] using ek
            exact this.2
          have X' : ∀ x, takeX L ahead behind (T k) (Nw k) false x = x := fun x => by simp [takeX, hE]
          have X1 := X' (T k)
          have X2 := X' ahead
          have X3 := X' behind
          clear em et en ek X'
          rcases hO.2 with ⟨hv, hm⟩ | ⟨gg, cap, cur, hv, hgb, hgh, hcap, hcm, hcs, htk⟩
          case inl =>
            subst hv
            obtain rfl : xs = [] := List.eq_nil_of_length_eq_zero hm
            clear hm
            go_wp2_with fail
            refine wp_loop_rounds 1 ?_
            rw [rounds_succ]
            go_wp2_with (at_builtin; refine wpList_append_own _ rfl (.tmp 73) (.tmp 79) 36 rfl w.heap.size 3 i0 (.int .i64 0) 1 8 Try.underlying36 HI0.out HZ0.out HZ1.out HZ2.out rfl (by decide) (.slice none 0 0) 0 (([] : List Int).map (Value.int .i64)) rfl (hO.alloc (.cells #[.int .i64 (T k)] 3)) ⟨wc.heap.size, 0, none⟩ 1 1 [.int .i64 (T k)] rfl rfl ?c1A ?c2A ?c3A ?c4A ?c5A ?_)
            case c1A =>
              intro j u hj
              match j, hj with
              | 0, hj => simp at hj; subst hj; exact HasBlk.cell (HasBlk.fresh wc 3 #[.int .i64 (T k)]) 0
            case c2A => intro u hu; simp at hu; subst hu; rfl
            case c3A => simp only [maxLen]; omega
            case c4A => omega
            case c5A => have := gx.size; simp; omega
            intro v' w4 hown' hgrow _
            have hnb := own_ne (hO.alloc (.cells #[.int .i64 (T k)] 3)) (HasBlk.past hB (.cells #[.int .i64 (T k)] 3)) (by decide)
            have hng := own_ne (hO.alloc (.cells #[.int .i64 (T k)] 3)) (HasBlk.past hG (.cells #[.int .i64 (T k)] 3)) (by decide)
            have hB4 := HasBlk.grown (HasBlk.past hB (.cells #[.int .i64 (T k)] 3)) hgrow hnb
            have hG4 := HasBlk.grown (HasBlk.past hG (.cells #[.int .i64 (T k)] 3)) hgrow hng
            have g4 : Below w.heap.size w w4 := (Below.alloc gx gz (.cells #[.int .i64 (T k)] 3)).grown hgrow (by have := gx.size; simp; omega) (fun r hr => (World.ownsRow.lt hO r hr).1)
            have hnb4 := own_ne hown' hB4 (by decide)
            have HOWN := Lib.hid hown'
            clear hown' hgrow hnb hng
            have z0 := hB4.cell 0
            have zf0 := hB4.free 0
            have z1 := hB4.cell 1
            have zf1 := hB4.free 1
            have z2 := hB4.cell 2
            have zf2 := hB4.free 2
            have z3 := hB4.cell 3
            have zf3 := hB4.free 3
            simp only [List.getElem?_toArray, List.getElem?_cons_zero, List.getElem?_cons_succ] at z0 z1 z2 z3
            have zz := hB4.lt
            have y0 := hG4.cell 0
            have yf0 := hG4.free 0
            have y1 := hG4.cell 1
            have yf1 := hG4.free 1
            have y2 := hG4.cell 2
            have yf2 := hG4.free 2
            have y3 := hG4.cell 3
            have yf3 := hG4.free 3
            simp only [List.getElem?_toArray, List.getElem?_cons_zero, List.getElem?_cons_succ] at y0 y1 y2 y3
            have yz := hG4.lt
            go_wp2
            go_roundg (n - k - 1)
            case measure => have := HK.out; omega
            case rel =>
              refine ⟨k + 1, T k, ([] : List Int) ++ [T k], by omega, by go_num, by first | (simp; done) | (simp; omega), ?_, ?_, by simpa using (((HasBlk.put hB4 0 (.int .i64 (T k))).put 1 (.int .i64 ahead)).put 2 (.int .i64 behind)).put 3 (.bool false), Below.setCell (Below.setCell (Below.setCell (Below.setCell g4 hwb _) hwb _) hwb _) hwb _⟩
              · intro x hx
                rcases List.mem_append.1 hx with h | h
                · have := HXS.out x h; omega
                · simp at h; omega
              · simpa using own_put (own_put (own_put (own_put HOWN.out hnb4 0 (.int .i64 (T k))) hnb4 1 (.int .i64 ahead)) hnb4 2 (.int .i64 behind)) hnb4 3 (.bool false)
          case inr =>
            subst hv
            clear hgh hcs htk cur
            have hxk2 : xs.length ≤ 200 := by omega
            go_wp2_with fail
            obtain ⟨wo, rfl⟩ : ∃ wo : World, wo = wc := ⟨_, rfl⟩
            go_loopg [14] xs.length (fun gj s wi => ∃ j q : Nat, j + gj = xs.length ∧ s = .int .i64 j ∧ wi = wo.drewN q)
            case atStart => exact ⟨0, 0, by omega, rfl, rfl⟩
            case round =>
              obtain ⟨j, q, hj, rfl, rfl⟩ := hrel
              have HJ := Lib.hid hj
              have hj' : j ≤ xs.length := by omega
              clear hj
              by_cases hjl : j < xs.length
              case pos =>
                obtain ⟨y, hy⟩ : ∃ y, y = xs[j] := ⟨_, rfl⟩
                have hyl : y ≤ L := by rw [hy]; exact HXS.out _ (List.getElem_mem hjl)
                have hcj : wo.cell? ⟨gg, j, none⟩ = some (.int .i64 y) := by
                  rw [hO.cellAt j (by omega), hy]
                  simp [hjl]
                clear hy
                have hne : (y == T k) = false := by rw [beq_eq_false_iff_ne]; omega
                have hj0 : (0 : Int) ≤ (j : Int) := by omega
                have hj1 : (j : Int) < (xs.length : Int) := by omega
                go_wp2_with fail
                go_quiet (fail)
                go_wp2
                go_roundg (xs.length - j - 1)
                case measure => have := HJ.out; omega
                case rel => exact ⟨j + 1, q + nq, by omega, by go_num, rfl⟩
              case neg =>
                obtain rfl : j = xs.length := by omega
                go_wp2_with (at_builtin; refine wpList_append_own _ rfl (.tmp 73) (.tmp 79) 36 rfl w.heap.size 3 i0 (.int .i64 0) 1 8 Try.underlying36 HI0.out HZ0.out HZ1.out HZ2.out rfl (by decide) (.slice (some ⟨gg, 0, none⟩) xs.length cap) xs.length (xs.map (Value.int .i64)) rfl (World.ownsRow.alloc (own_drewN hO q) (.cells #[.int .i64 (T k)] 3)) ⟨wo.heap.size, 0, none⟩ 1 1 [.int .i64 (T k)] rfl rfl ?c1B ?c2B ?c3B ?c4B ?c5B ?_)
                case c1B =>
                  intro j u hj
                  match j, hj with
                  | 0, hj => simp at hj; subst hj; exact HasBlk.cell (HasBlk.fresh (wo.drewN q) 3 #[.int .i64 (T k)]) 0
                case c2B => intro u hu; simp at hu; subst hu; rfl
                case c3B => simp only [maxLen]; omega
                case c4B => omega
                case c5B => have := gx.size; simp; omega
                intro v' w4 hown' hgrow _
                have hnb := own_ne (World.ownsRow.alloc (own_drewN hO q) (.cells #[.int .i64 (T k)] 3)) (HasBlk.past (hB.drawnN q) (.cells #[.int .i64 (T k)] 3)) (by decide)
                have hng := own_ne (World.ownsRow.alloc (own_drewN hO q) (.cells #[.int .i64 (T k)] 3)) (HasBlk.past (hG.drawnN q) (.cells #[.int .i64 (T k)] 3)) (by decide)
                have hB4 := HasBlk.grown (HasBlk.past (hB.drawnN q) (.cells #[.int .i64 (T k)] 3)) hgrow hnb
                have hG4 := HasBlk.grown (HasBlk.past (hG.drawnN q) (.cells #[.int .i64 (T k)] 3)) hgrow hng
                have g4 : Below w.heap.size w w4 := (Below.alloc (drewN_below gx q) gz (.cells #[.int .i64 (T k)] 3)).grown hgrow (by have := gx.size; simp; omega) (fun r hr => (World.ownsRow.lt hO r hr).1)
                have hnb4 := own_ne hown' hB4 (by decide)
                have HOWN := Lib.hid hown'
                clear hown' hgrow hnb hng
                have z0 := hB4.cell 0
                have zf0 := hB4.free 0
                have z1 := hB4.cell 1
                have zf1 := hB4.free 1
                have z2 := hB4.cell 2
                have zf2 := hB4.free 2
                have z3 := hB4.cell 3
                have zf3 := hB4.free 3
                simp only [List.getElem?_toArray, List.getElem?_cons_zero, List.getElem?_cons_succ] at z0 z1 z2 z3
                have zz := hB4.lt
                have y0 := hG4.cell 0
                have yf0 := hG4.free 0
                have y1 := hG4.cell 1
                have yf1 := hG4.free 1
                have y2 := hG4.cell 2
                have yf2 := hG4.free 2
                have y3 := hG4.cell 3
                have yf3 := hG4.free 3
                simp only [List.getElem?_toArray, List.getElem?_cons_zero, List.getElem?_cons_succ] at y0 y1 y2 y3
                have yz := hG4.lt
                go_wp2
                go_roundg (n - k - 1)
                case measure => have := HK.out; omega
                case rel =>
                  refine ⟨k + 1, T k, xs ++ [T k], by omega, by go_num, by first | (simp; done) | (simp; omega), ?_, ?_, by simpa using (((HasBlk.put hB4 0 (.int .i64 (T k))).put 1 (.int .i64 ahead)).put 2 (.int .i64 behind)).put 3 (.bool false), Below.setCell (Below.setCell (Below.setCell (Below.setCell g4 hwb _) hwb _) hwb _) hwb _⟩
                  · intro x hx
                    rcases List.mem_append.1 hx with h | h
                    · have := HXS.out x h; omega
                    · simp at h; omega
                  · simpa using own_put (own_put (own_put (own_put HOWN.out hnb4 0 (.int .i64 (T k))) hnb4 1 (.int .i64 ahead)) hnb4 2 (.int .i64 behind)) hnb4 3 (.bool false)
        case neg =>
          have hE' : (takeE L ahead behind (T k) (Nw k) false != 0) = true := by simpa using hE
          have X1 : (takeX L ahead behind (T k) (Nw k) false (T k)) = 0 := by simp [takeX, hE]
          have X2 : (takeX L ahead behind (T k) (Nw k) false ahead) = 0 := by simp [takeX, hE]
          have X3 : (takeX L ahead behind (T k) (Nw k) false behind) = 0 := by simp [takeX, hE]
          clear hE hO
          go_wp2
          go_roundg (n - k - 1)
          case measure => have := HK.out; omega
          case rel => exact ⟨k + 1, L, xs, by omega, by go_num, by omega, HXS.out, HO.out, hB, gx⟩

theorem once_any (ahead behind : Int) (A : Option Addr) (n c : Nat) (f : Nat → Int × Int × Bool) (w : World) (hn : n ≤ 9223372036854775807)
    (hc : 0 < n → ∃ b off, A = some ⟨b, off, none⟩ ∧ b < w.heap.size ∧ ∀ i, i < n → CameAt w b off i (f i)) :
   Calls Try.prog 5 #[.int .i64 ahead, .int .i64 behind, .slice A n c] w fun e w' => e = .returned (.bool true) ∧ Below w.heap.size w w' := by
  by_cases h1 : isTime ahead = true
  · by_cases h2 : isTime behind = true
    · by_cases h3 : 200 < n
      · exact once_long ahead behind A n c w h1 h2 h3 hn
      · rcases Nat.eq_zero_or_pos n with rfl | hp
        · exact once_none ahead behind A c w h1 h2
        · obtain ⟨b, off, rfl, hb, hf⟩ := hc hp
          exact once_loop ahead behind b off n c (fun i => (f i).1) (fun i => (f i).2.1) w h1 h2 (by omega) hb (fun i hi => (hf i hi).1) (fun i hi => (hf i hi).2.1)
    · exact once_arg ahead behind A n c w (.inr (Bool.eq_false_iff.2 h2))
  · exact once_arg ahead behind A n c w (.inl (Bool.eq_false_iff.2 h1))
end Go.Proofs.Ythhjiakbhobphaa
