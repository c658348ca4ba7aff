/- NetAll, walked: whatever the bytes: the law answers true, and writes into new memory alone. -/
import Derived.Test.YtiognapakadggaaAwake
import Derived.Deep.LoopGhost
import Derived.Deep.DeepCutAuto
import Derived.Deep.QuietTactic
import Derived.BigQuiet
namespace Go.Proofs.Ytiognapakadggaa
open Go.RowKit

/-- In w the slice v reads as the byte strings ls. -/
def LsAt (w : World) (v : Value) (ls : List (List UInt8)) : Prop :=
  ∃ A c, v = .slice A ls.length c ∧ (0 < ls.length → ∃ g o, A = some ⟨g, o, none⟩ ∧ ∀ i b, ls[i]? = some b → ∃ vb, w.cell? ⟨g, o + i, none⟩ = some vb ∧ BytesAt w vb b)

/-- A law that answers true, and writes into new memory alone. -/
def Yes (w : World) (e : Ending) (w' : World) : Prop := e = .returned (.bool true) ∧ Below w.heap.size w w'

theorem nall_many (v : Value) (ls : List (List UInt8)) (fv tv : Int) (w : World) (h : LsAt w v ls) (hm : 40 < ls.length) (hn : ls.length ≤ 9223372036854775807) : Calls Try.prog 3 #[v, .int .i64 fv, .int .i64 tv] w (Yes w) := by
  obtain ⟨A, c, rfl, hc⟩ := h
  have hm' : (40 : Int) < (ls.length : Int) := by omega
  clear hc
  go_enter Try.func3, Try.ntmps3
  go_wp2_with fail
  refine (awake_any _).mono ?_
  rintro e w1 ⟨rfl, hb1⟩
  go_wp2
  go_ret
  exact ⟨rfl, hb1⟩

theorem BytesAt.drew {w : World} {v : Value} {b : List UInt8} (h : BytesAt w v b) : BytesAt w.drew v b := h
theorem NetAt.drewN {w : World} {v : Value} {fs : List Fl} (h : NetAt w v fs) (n : Nat) : NetAt (w.drewN n) v fs := h
theorem NetAt.drew {w : World} {v : Value} {fs : List Fl} (h : NetAt w v fs) : NetAt w.drew v fs := h

/-- A store into another block of nets leaves a net as it was. -/
theorem NetAt.box {w : World} {v : Value} {fs : List Fl} {b : Nat} {A : Option Addr} {n c : Nat} (h : NetAt w v fs) (hb : HasBlk w b 26 #[.slice A n c]) (u : Value) : NetAt (w.setCell ⟨b, 0, none⟩ u) v fs := by
  obtain ⟨A', c', rfl, hc⟩ := h
  refine ⟨_, _, rfl, fun hp => ?_⟩
  obtain ⟨g, o, rfl, hf⟩ := hc hp
  refine ⟨g, o, rfl, fun i f hi => ?_⟩
  obtain ⟨vb, h0, h1, h2, h3, h4⟩ := hf i f hi
  have h5 := hb.cell 0
  have off : ∀ (q : Nat) (x : Value), w.cell? ⟨g, q, none⟩ = some x → (∀ A n c, x = .slice A n c → q ≠ 0) → (w.setCell ⟨b, 0, none⟩ u).cell? ⟨g, q, none⟩ = some x := by
    intro q x hx hq
    refine (World.cell?_setCell_other w _ _ u (fun e => ?_)).trans hx
    simp only [Addr.mk.injEq, and_true] at e
    obtain ⟨rfl, rfl⟩ := e
    rw [hx] at h5
    simp only [List.getElem?_toArray, List.getElem?_cons_zero, Option.some.injEq] at h5
    exact hq _ _ _ h5 rfl
  exact ⟨vb, off _ _ h0 (by intro _ _ _ e; cases e), off _ _ h1 (by intro _ _ _ e; cases e), off _ _ h2 (by intros; omega), off _ _ h3 (by intro _ _ _ e; cases e), h4.box hb u⟩

/-- Behind a call: the net of k pieces lies in a block of its own, the old one in block nb. -/
def Sent (w : World) (nb k : Nat) (A' : Option Addr) (k' c' : Nat) (fs : List Fl) (p q : Value) (wx : World) : Prop :=
  ∃ (mb : Nat) (A : Option Addr) (c : Nat), p = .pointer (some ⟨mb, 0, none⟩) ∧ q = .bool true ∧ mb ≠ nb ∧ HasBlk wx mb 26 #[.slice A k c] ∧ HasBlk wx nb 26 #[.slice A' k' c'] ∧ NetAt wx (.slice A k c) fs ∧ Below w.heap.size w wx

theorem sent_after {w wr w2 : World} {nb n k k' c' c2 : Nat} {A' A2 : Option Addr} {fs : List Fl} (hG : Below w.heap.size w wr) (hB : HasBlk wr nb 26 #[.slice A' k' c']) (hf : Fresh w2 wr.drew.heap.size (.slice A2 n c2) fs) (hb : Below wr.drew.heap.size wr.drew w2) (hn : n = k) :
    Sent w nb k A' k' c' fs (.pointer (some ⟨w2.heap.size, 0, none⟩)) (.bool true) (w2.alloc (.cells #[.slice A2 n c2] 26)) := by
  subst hn
  have h1 := hB.lt
  have h2 : wr.heap.size ≤ w2.heap.size := hb.size
  have h3 := hG.size
  exact ⟨_, _, _, rfl, rfl, by omega, HasBlk.fresh _ _ _, (HasBlk.later hB.drawn hb).past _, hf.netAt.later ((Below.refl _ _).alloc (Nat.le_refl _) _), (below_on (W := wr.drew) h3 hG.drew hb).alloc (by omega) _⟩
theorem sent_before {w wr w2 : World} {nb n k k' c' c2 : Nat} {A' A2 : Option Addr} {fs : List Fl} (hG : Below w.heap.size w wr) (hB : HasBlk wr nb 26 #[.slice A' k' c']) (hf : Fresh w2 (wr.alloc (.cells #[.slice none 0 0] 26)).drew.heap.size (.slice A2 n c2) fs) (hb : Below (wr.alloc (.cells #[.slice none 0 0] 26)).drew.heap.size (wr.alloc (.cells #[.slice none 0 0] 26)).drew w2) (hn : n = k) :
    Sent w nb k A' k' c' fs (.pointer (some ⟨wr.heap.size, 0, none⟩)) (.bool true) (w2.setCell ⟨wr.heap.size, 0, none⟩ (.slice A2 n c2)) := by
  subst hn
  have h1 := hB.lt
  have h2 : (wr.alloc (.cells #[.slice none 0 0] 26)).heap.size ≤ w2.heap.size := hb.size
  have h3 := hG.size
  have h4 : (wr.alloc (.cells #[.slice none 0 0] 26)).drew.heap.size = wr.heap.size + 1 := by show (wr.alloc _).heap.size = _; simp
  simp only [World.size_alloc] at h2
  have hM : HasBlk (wr.alloc (.cells #[.slice none 0 0] 26)).drew wr.heap.size 26 #[.slice none 0 0] := HasBlk.fresh _ _ _
  exact ⟨_, _, _, rfl, rfl, by omega, by simpa using (hM.later hb).put 0 (.slice A2 n c2), (HasBlk.later (hB.past _).drawn hb).off (p := ⟨wr.heap.size, 0, none⟩) (by dsimp only; omega) _, (hf.put_low (by omega) 0 _).netAt,
    (below_on (W := (wr.alloc (.cells #[.slice none 0 0] 26)).drew) (by omega) (hG.alloc h3 _).drew hb).setCell (p := ⟨wr.heap.size, 0, none⟩) h3 _⟩

/-- Behind a Take: the new net and the piece lie in blocks of their own, the old net's box as it was. -/
theorem took_world {w wr w2 : World} {nb n k' c' c2 d2 : Nat} {A' A2 B2 : Option Addr} {f : Fl} {fs : List Fl} (hG : Below w.heap.size w wr) (hB : HasBlk wr nb 26 #[.slice A' k' c']) (hf : Fresh w2 wr.heap.size (.slice A2 n c2) fs) (hb2 : BytesAt w2 (.slice B2 f.b.length d2) f.b) (hb : Below wr.heap.size wr w2) :
    HasBlk ((w2.alloc (.cells #[.slice A2 n c2] 26)).alloc (.cells #[.int .i64 f.fr, .int .i64 f.to, .slice B2 f.b.length d2, .bool f.bad] 31)) w2.heap.size 26 #[.slice A2 n c2] ∧
    HasBlk ((w2.alloc (.cells #[.slice A2 n c2] 26)).alloc (.cells #[.int .i64 f.fr, .int .i64 f.to, .slice B2 f.b.length d2, .bool f.bad] 31)) (w2.heap.size + 1) 31 #[.int .i64 f.fr, .int .i64 f.to, .slice B2 f.b.length d2, .bool f.bad] ∧
    HasBlk ((w2.alloc (.cells #[.slice A2 n c2] 26)).alloc (.cells #[.int .i64 f.fr, .int .i64 f.to, .slice B2 f.b.length d2, .bool f.bad] 31)) nb 26 #[.slice A' k' c'] ∧
    NetAt ((w2.alloc (.cells #[.slice A2 n c2] 26)).alloc (.cells #[.int .i64 f.fr, .int .i64 f.to, .slice B2 f.b.length d2, .bool f.bad] 31)) (.slice A2 n c2) fs ∧
    BytesAt ((w2.alloc (.cells #[.slice A2 n c2] 26)).alloc (.cells #[.int .i64 f.fr, .int .i64 f.to, .slice B2 f.b.length d2, .bool f.bad] 31)) (.slice B2 f.b.length d2) f.b ∧
    Below w.heap.size w ((w2.alloc (.cells #[.slice A2 n c2] 26)).alloc (.cells #[.int .i64 f.fr, .int .i64 f.to, .slice B2 f.b.length d2, .bool f.bad] 31)) ∧ w2.heap.size ≠ nb := by
  have x2 : ∀ o1 o2 : Obj, Below w2.heap.size w2 ((w2.alloc o1).alloc o2) := fun o1 o2 => ((Below.refl _ _).alloc (Nat.le_refl _) o1).alloc (by simp) o2
  have h3 := hG.size
  have h4 := hb.size
  have h5 := hB.lt
  refine ⟨(HasBlk.fresh w2 26 _).past _, by have := HasBlk.fresh (w2.alloc (.cells #[.slice A2 n c2] 26)) 31 #[.int .i64 f.fr, .int .i64 f.to, .slice B2 f.b.length d2, .bool f.bad]; simpa using this, ((hB.later hb).past _).past _, hf.netAt.later (x2 _ _), hb2.later (x2 _ _), ?_, by omega⟩
  exact ((below_on h3 hG hb).alloc (by omega) _).alloc (by simp; omega) _

def pieces (fv tv : Int) (ls : List (List UInt8)) : List Fl := ls.map fun b => ⟨fv, tv, b, false⟩

set_option maxRecDepth 100000 in
set_option maxHeartbeats 2000000 in
theorem nall_few (v : Value) (ls : List (List UInt8)) (fv tv : Int) (w : World) (h : LsAt w v ls) (hm : ls.length ≤ 40) : Calls Try.prog 3 #[v, .int .i64 fv, .int .i64 tv] w (Yes w) := by
  obtain ⟨A, c, rfl, hc⟩ := h
  have HC := Lib.hid hc
  have hm' : (ls.length : Int) ≤ 40 := by omega
  have hm2 : ¬ (40 : Int) < (ls.length : Int) := by omega
  clear hc
  go_enter Try.func3, Try.ntmps3
  go_wp2_with fail
  refine (awake_any _).mono ?_
  rintro e w1 ⟨rfl, hb1⟩
  have q1 := hb1.size
  go_wp2_with fail
  have hK0 : HasBlk (w1.alloc (.cells #[.slice none 0 0] 26)) w1.heap.size 26 #[.slice none 0 0] := HasBlk.fresh w1 26 _
  have hG0 : Below w.heap.size w (w1.alloc (.cells #[.slice none 0 0] 26)) := hb1.alloc q1 _
  generalize hnb : w1.heap.size = nb at *
  go_loopg [9] ls.length (fun gk i wr => ∃ (k : Nat) (A' : Option Addr) (c' : Nat), k + gk = ls.length ∧ i = .int .i64 k ∧ (∀ (j : Nat) (b : List UInt8), j < k → ls[j]? = some b → b.length ≤ 2000) ∧
    HasBlk wr nb 26 #[.slice A' k c'] ∧ NetAt wr (.slice A' k c') (pieces fv tv (ls.take k)) ∧ Below w.heap.size w wr)
  case atStart =>
    exact ⟨0, none, 0, by omega, rfl, by omega, hK0, netNil _, hG0⟩
  case round =>
    obtain ⟨k, A', c', hk, rfl, hj, hK, hN, hG⟩ := hrel
    have HK := Lib.hid hk
    have HJ := Lib.hid hj
    have HN := Lib.hid hN
    have HB := Lib.hid hK
    have HG := Lib.hid hG
    have hk' : k ≤ ls.length := by omega
    have kc := hK.cell 0
    have kf := hK.free 0
    have kl := hK.lt
    simp at kc
    have gz := hG.size
    clear hk hj hN hK hG
    by_cases hlt : k < ls.length
    case neg =>
      obtain rfl : k = ls.length := by omega
      go_wp2_with fail
      have hsm : ∀ k, ∀ f ∈ pieces fv tv (ls.drop k), f.b.length ≤ 1000000 := by
        intro k f hf
        simp only [pieces, List.mem_map] at hf
        obtain ⟨b', hb', rfl⟩ := hf
        obtain ⟨j, hj⟩ := List.getElem?_of_mem (List.mem_of_mem_drop hb')
        have := HJ.out j b' (List.getElem?_eq_some_iff.1 hj).1 hj
        dsimp only
        omega
      have HSM := Lib.hid hsm
      clear kc kf kl gz HJ HK hk' hlt hsm
      rw [List.take_length] at HN
      go_loopg [12] ls.length (fun gk i wr => ∃ (k : Nat) (A' : Option Addr) (c' : Nat), k + gk = ls.length ∧ i = .int .i64 k ∧
        HasBlk wr nb 26 #[.slice A' (ls.length - k) c'] ∧ NetAt wr (.slice A' (ls.length - k) c') (pieces fv tv (ls.drop k)) ∧ Below w.heap.size w wr)
      case atStart => exact ⟨0, A', c', by omega, rfl, HB.out, HN.out, HG.out⟩
      case round =>
        clear HG HB HN
        obtain ⟨k, A', c', hk, rfl, hK, hN, hG⟩ := hrel
        have HK := Lib.hid hk
        have HN := Lib.hid hN
        have HB := Lib.hid hK
        have HG := Lib.hid hG
        have hk' : k ≤ ls.length := by omega
        have kc := hK.cell 0
        have kf := hK.free 0
        have kl := hK.lt
        simp at kc
        have gz := hG.size
        clear hk hN hK hG
        by_cases hlt : k < ls.length
        case neg =>
          obtain rfl : k = ls.length := by omega
          rw [Nat.sub_self] at HB kc
          have hN0 : NetAt wr (.slice A' 0 c') [] := by have := HN.out; rwa [List.drop_length, Nat.sub_self] at this
          have HN0 := Lib.hid hN0
          clear hN0
          go_wp2_with fail
          refine (take_none _ 0 _ HN0.out).mono ?_
          rintro e w2 ⟨rfl, hb2⟩
          have hg2 : Below w.heap.size w w2 := below_on gz HG.out hb2
          have z2 := hg2.size
          go_wp2
          go_ret
          refine ⟨rfl, ?_⟩
          repeat (first | exact hg2 | refine Below.alloc ?_ (by first | omega | (simp; done) | (simp; omega)) _)
        case pos =>
          obtain ⟨b, hf⟩ : ∃ b, ls[k]? = some b := ⟨_, List.getElem?_eq_getElem hlt⟩
          have hd : pieces fv tv (ls.drop k) = ⟨fv, tv, b, false⟩ :: pieces fv tv (ls.drop (k + 1)) := by
            obtain ⟨h1, h2⟩ := List.getElem?_eq_some_iff.1 hf
            rw [List.drop_eq_getElem_cons h1, h2]; rfl
          have HD := Lib.hid hd
          obtain ⟨g, o, rfl, hfl⟩ := HC.out (by omega)
          obtain ⟨vb, c0, hB⟩ := hfl k b hf
          obtain ⟨bA, bc, rfl⟩ : ∃ bA bc, vb = .slice bA b.length bc := by obtain ⟨bA, bc, h, _⟩ := hB; exact ⟨bA, bc, h⟩
          have hgw : g < w.heap.size := World.block_lt_of_cell? _ _ c0
          have HBB := Lib.hid hB
          clear hf hfl hB hd
          have hk0 : (0 : Int) ≤ (k : Int) := by omega
          have hk1 : (k : Int) < (ls.length : Int) := by omega
          obtain ⟨n', hn'⟩ : ∃ n', ls.length - k = n' := ⟨_, rfl⟩
          rw [hn'] at kc
          replace HB := HB.out
          rw [hn'] at HB
          replace HB := Lib.hid HB
          have hN1 : NetAt wr (.slice A' n' c') (⟨fv, tv, b, false⟩ :: pieces fv tv (ls.drop (k + 1))) := by have := HN.out; rwa [HD.out, hn'] at this
          have HN1 := Lib.hid hN1
          clear hN1
          go_wp2_with fail
          have hsm : ∀ f ∈ ((⟨fv, tv, b, false⟩ : Fl) :: pieces fv tv (ls.drop (k + 1))), f.b.length ≤ 1000000 := by
            rw [← HD.out]
            exact HSM.out k
          have hln : ((⟨fv, tv, b, false⟩ : Fl) :: pieces fv tv (ls.drop (k + 1))).length ≤ 1000 := by simp [pieces]; omega
          refine (take_some _ ((⟨fv, tv, b, false⟩ : Fl) :: pieces fv tv (ls.drop (k + 1))) 0 0 ⟨fv, tv, b, false⟩ _ HN1.out rfl (by simp [ofI]) (by decide) hln hsm).mono ?_
          rintro e w2 ⟨v2, B2, d2, rfl, hf2, hB2, hb2⟩
          obtain ⟨A2, c2, rfl⟩ := hf2.shape
          clear hsm hln
          obtain ⟨n2, hn2⟩ : ∃ n2, (pieces fv tv (ls.drop (k + 1))).length = n2 := ⟨_, rfl⟩
          have hf2 : Fresh w2 wr.heap.size (.slice A2 n2 c2) (pieces fv tv (ls.drop (k + 1))) := by subst hn2; exact hf2
          have hT := took_world HG.out HB.out hf2 hB2 hb2
          have HT := Lib.hid hT
          clear hf2 hB2 hT HG HB HN HN1 HD kc kf kl
          go_upto_region 18 with (fail)
          generalize hW : (w2.alloc (.cells #[.slice A2 n2 c2] 26)).alloc (.cells #[.int .i64 fv, .int .i64 tv, .slice B2 b.length d2, .bool false] 31) = W at HT ⊢
          generalize hmb : w2.heap.size = mb at HT ⊢
          obtain ⟨hM, hP, hB, hN, hBB, hG, hne⟩ := HT.out
          have p0 := hP.cell 0
          have p1 := hP.cell 1
          have p2 := hP.cell 2
          have p3 := hP.cell 3
          have m0 := hM.cell 0
          have nc := hB.cell 0
          have nf := hB.free 0
          have nl := hB.lt
          simp only [List.getElem?_toArray, List.getElem?_cons_zero, List.getElem?_cons_succ] at p0 p1 p2 p3 m0 nc
          have cc := (hG.cell (p := ⟨g, o + k, none⟩) hgw).trans c0
          have v1 : ∀ n, (convert 27 9 (.slice B2 b.length d2)).run Try.prog (W.drewN n) = .ok (.string (strOf b)) (W.drewN n) := fun n => conv_bytes hBB
          have hbA : BytesAt W (.slice bA b.length bc) b := HBB.out.later hG
          have v2 : ∀ n, (convert 27 9 (.slice bA b.length bc)).run Try.prog (W.drewN n) = .ok (.string (strOf b)) (W.drewN n) := fun n => conv_bytes hbA
          have HM := Lib.hid hM
          have HNB := Lib.hid hB
          have HNN := Lib.hid hN
          have HGG := Lib.hid hG
          clear hM hP hB hN hBB hG hbA hmb HT HC HBB
          go_quiet (fail)
          go_wp2_with fail
          go_roundg (ls.length - k - 1)
          case measure => have := HK.out; omega
          case rel =>
            have hnn : n2 = ls.length - (k + 1) := by rw [← hn2]; simp [pieces]
            subst hnn
            have hK := HasBlk.drawnN HNB.out nq
            exact ⟨k + 1, A2, c2, by have := HK.out; omega, by go_num, by simpa using hK.put 0 (.slice A2 (ls.length - (k + 1)) c2), (HNN.out.drewN nq).box hK _, (drewN_below HGG.out nq).setCell (p := ⟨nb, 0, none⟩) (by dsimp only; omega) _⟩
    case pos =>
      obtain ⟨b, hf⟩ : ∃ b, ls[k]? = some b := ⟨_, List.getElem?_eq_getElem hlt⟩
      obtain ⟨g, o, rfl, hfl⟩ := HC.out (by omega)
      obtain ⟨vb, c0, hB⟩ := hfl k b hf
      obtain ⟨bA, bc, rfl⟩ : ∃ bA bc, vb = .slice bA b.length bc := by obtain ⟨bA, bc, h, _⟩ := hB; exact ⟨bA, bc, h⟩
      have hgw : g < w.heap.size := World.block_lt_of_cell? _ _ c0
      have hgr : g < wr.heap.size := by omega
      have cc := (HG.out.cell (p := ⟨g, o + k, none⟩) hgw).trans c0
      have HBB := Lib.hid (hB.later HG.out)
      have HF := Lib.hid hf
      clear c0 hf hfl hB
      have hk0 : (0 : Int) ≤ (k : Int) := by omega
      have hk1 : (k : Int) < (ls.length : Int) := by omega
      by_cases hl : b.length ≤ 2000
      · have hl1 : ¬ (2000 : Int) < (b.length : Int) := by omega
        go_wp2_with fail
        have hlen : (pieces fv tv (ls.take k)).length = k := by simp [pieces]; omega
        have hsm : ∀ f ∈ pieces fv tv (ls.take k), f.b.length ≤ 1000000 := by
          intro f hf
          simp only [pieces, List.mem_map] at hf
          obtain ⟨b', hb', rfl⟩ := hf
          obtain ⟨j, hj⟩ := List.getElem?_of_mem hb'
          rw [List.getElem?_take] at hj
          split at hj
          · have := HJ.out j b' (by omega) hj; dsimp only; omega
          · simp at hj
        have hlt2 : (pieces fv tv (ls.take k)).length < 40 := by omega
        have HS := Lib.hid hsm
        clear hsm
        have hN3 : NetAt wr.drew (.slice A' k c') (pieces fv tv (ls.take k)) := HN.out
        have hB3 : BytesAt wr.drew (.slice bA b.length bc) b := HBB.out
        have x4 : Below wr.heap.size wr (wr.alloc (.cells #[.slice none 0 0] 26)) := (Below.refl _ _).alloc (Nat.le_refl _) _
        have hN4 : NetAt (wr.alloc (.cells #[.slice none 0 0] 26)).drew (.slice A' k c') (pieces fv tv (ls.take k)) := (HN.out.later x4).drew
        have hB4 : BytesAt (wr.alloc (.cells #[.slice none 0 0] 26)).drew (.slice bA b.length bc) b := (HBB.out.later x4).drew
        have hM4 : HasBlk (wr.alloc (.cells #[.slice none 0 0] 26)).drew wr.heap.size 26 #[.slice none 0 0] := HasBlk.fresh _ _ _
        have HN3 := Lib.hid hN3
        have HB3 := Lib.hid hB3
        have HN4 := Lib.hid hN4
        have HB4 := Lib.hid hB4
        have HM4 := Lib.hid hM4
        have hbl : b.length ≤ 1000000 := by omega
        have hpl : (pieces fv tv (ls.take k)).length ≤ 1000 := by omega
        clear hN3 hB3 hN4 hB4 hM4 x4
        have HHL := Lib.hid hlen
        have hlen2 : (pieces fv tv (ls.take (k + 1))).length = k + 1 := by simp [pieces]; omega
        have HHL2 := Lib.hid hlen2
        clear hlen2
        clear hlen
        go_upto_region 10 with (fail)
        go_cut [10, 11] (Sent w nb (k + 1) A' k c' (pieces fv tv (ls.take (k + 1))))
        case first =>
          go_region_with (first
            | (go_at_call 8; refine (send_ok _ (pieces fv tv (ls.take k)) fv tv _ b _ HN3.out HB3.out hpl HS.out hbl hlt2).mono ?_; rintro e w2 ⟨v2, rfl, hf2, hb2⟩; obtain ⟨A2, c2, rfl⟩ := hf2.shape; have HF2 := Lib.hid hf2; clear hf2)
            | (go_at_call 8; refine (send_ok _ (pieces fv tv (ls.take k)) fv tv _ b _ HN4.out HB4.out hpl HS.out hbl hlt2).mono ?_; rintro e w2 ⟨v2, rfl, hf2, hb2⟩; obtain ⟨A2, c2, rfl⟩ := hf2.shape; have HM := HM4.out.later hb2; have m0 := HM.cell 0; have mf := HM.free 0; simp at m0; have HF2 := Lib.hid hf2; clear hf2))
          all_goals
            go_wp2_with fail
            go_meet
          all_goals
            case rel =>
              have hp : pieces fv tv (ls.take k) ++ [⟨fv, tv, b, false⟩] = pieces fv tv (ls.take (k + 1)) := by
                rw [List.take_add_one, HF.out]; simp [pieces]
              have hF := HF2.out
              rw [hp, HHL2.out] at hF
              rw [HHL.out]
              first
                | exact sent_after HG.out HB.out hF hb2 rfl
                | exact sent_before HG.out HB.out hF hb2 rfl
        case rest =>
          obtain ⟨mb, A2, c2, rfl, rfl, hne, hM, hB, hN2, hG2⟩ := hcut
          have HN2 := Lib.hid (hN2.box hB (.slice A2 (k + 1) c2))
          have HB2 := Lib.hid hB
          have HG2 := Lib.hid hG2
          have m0 := hM.cell 0
          have n0 := hB.cell 0
          have nf := hB.free 0
          have nl := hB.lt
          simp at m0 n0
          clear hM hB hN2 hG2 HN3 HB3 HN4 HB4 HM4 HBB HB HG HN kc kf kl gz cc hgr HS
          go_wp2_with fail
          go_roundg (ls.length - k - 1)
          case measure => have := HK.out; omega
          case rel =>
            refine ⟨k + 1, A2, c2, by have := HK.out; omega, by go_num, fun j b' hj hb' => ?_, by simpa using HB2.out.put 0 (.slice A2 (k + 1) c2), HN2.out, HG2.out.setCell (p := ⟨nb, 0, none⟩) (by dsimp only; omega) _⟩
            rcases Nat.lt_or_ge j k with h | h
            · exact HJ.out j b' h hb'
            · obtain rfl : j = k := by omega
              rw [HF.out] at hb'
              cases hb'
              exact hl
      · have hl1 : (2000 : Int) < (b.length : Int) := by omega
        go_wp2_with fail
        go_ret
        exact ⟨rfl, HG.out⟩

theorem nall_any (v : Value) (ls : List (List UInt8)) (fv tv : Int) (w : World) (h : LsAt w v ls) (hn : ls.length ≤ 9223372036854775807) : Calls Try.prog 3 #[v, .int .i64 fv, .int .i64 tv] w (Yes w) := by
  by_cases hm : ls.length ≤ 40
  · exact nall_few v ls fv tv w h hm
  · exact nall_many v ls fv tv w h (by omega) hn
end Go.Proofs.Ytiognapakadggaa
