/- NetOnly, walked: whatever the calls: the law answers true, and writes into new memory alone. -/
import Derived.Test.YtiognapakadggaaNOnlyA
namespace Go.Proofs.Ytiognapakadggaa
open Go.RowKit

set_option maxRecDepth 100000 in
set_option maxHeartbeats 4000000 in
theorem nonly_few (v : Value) (os : List Op1) (w : World) (h : OpsAt w v os) (hm : os.length ≤ 100) : Calls Try.prog 6 #[v] w (Yes w) := by
  obtain ⟨A, c, rfl, hc⟩ := h
  have HC := Lib.hid hc
  have hm' : (os.length : Int) ≤ 100 := by omega
  have hm2 : ¬ (100 : Int) < (os.length : Int) := by omega
  obtain ⟨i31, hi0, hz0, hz1, hz2⟩ := info_parts Try.info31
  have HI0 := Lib.hid hi0
  have HZZ := Lib.hid hz0
  have HZ1' := Lib.hid hz1
  have HZ2' := Lib.hid hz2
  clear hi0 hz0 hz1 hz2 hc
  go_enter Try.func6, Try.ntmps6
  go_wp2_with fail
  refine (awake_any _).mono ?_
  rintro e w1 ⟨rfl, hb1⟩
  have q1 := hb1.size
  go_wp2_with fail
  have hK0 : HasBlk (w1.alloc (.cells #[.slice none 0 0] 26)) w1.heap.size 26 #[.slice none 0 0] := HasBlk.fresh w1 26 _
  have hG0 : Below w.heap.size w (w1.alloc (.cells #[.slice none 0 0] 26)) := hb1.alloc q1 _
  generalize hnb : w1.heap.size = nb at *
  go_loopg [5, 6] os.length (fun gk sv i wr => ∃ (k : Nat) (ps : List (Fl × Value)) (ns : List Fl) (A' : Option Addr) (c' : Nat), k + gk = os.length ∧ i = .int .i64 k ∧ ps.length ≤ k ∧ Rnd w nb sv ps ns A' c' wr)
  case atStart =>
    exact ⟨0, [], [], none, 0, by omega, rfl, by simp, Inv.nil, World.ownsRow_nil _ _ _ _, by simp, hK0, netNil _, hG0⟩
  case round =>
    obtain ⟨k, ps, ns, A', c', hk, rfl, hpk, hI, hO, hBy, hK, hN, hG⟩ := hrel
    have HK := Lib.hid hk
    have HR : Hid (Rnd w nb u5 ps ns A' c' wr) := Lib.hid ⟨hI, hO, hBy, hK, hN, hG⟩
    have HG := Lib.hid hG
    have hk' : k ≤ os.length := by omega
    have n0 := hK.cell 0
    have nf := hK.free 0
    have nl := hK.lt
    simp at n0
    have gz := hG.size
    clear hk hI hO hBy hK hN hG
    by_cases hlt : k < os.length
    case neg =>
      obtain rfl : k = os.length := by omega
      go_wp2_with fail
      go_ret
      exact ⟨rfl, HG.out⟩
    case pos =>
      obtain ⟨o, ho⟩ : ∃ o, os[k]? = some o := ⟨_, List.getElem?_eq_getElem hlt⟩
      obtain ⟨g, a, rfl, hop⟩ := HC.out (by omega)
      obtain ⟨⟨vb, c0, c1, c2, c3, c4, c5, c6, hB⟩, hi, hat, hbl⟩ := hop k o ho
      obtain ⟨bA, bc, rfl⟩ := hB.shape
      have hgw : g < w.heap.size := World.block_lt_of_cell? _ _ c0
      have hgr : g < wr.heap.size := by omega
      have d0 := (HG.out.cell (p := ⟨g, a + k * 7, none⟩) hgw).trans c0
      have d1 := (HG.out.cell (p := ⟨g, a + k * 7 + 1, none⟩) hgw).trans c1
      have d2 := (HG.out.cell (p := ⟨g, a + k * 7 + 2, none⟩) hgw).trans c2
      have d3 := (HG.out.cell (p := ⟨g, a + k * 7 + 3, none⟩) hgw).trans c3
      have d4 := (HG.out.cell (p := ⟨g, a + k * 7 + 4, none⟩) hgw).trans c4
      have d5 := (HG.out.cell (p := ⟨g, a + k * 7 + 5, none⟩) hgw).trans c5
      have d6 := (HG.out.cell (p := ⟨g, a + k * 7 + 6, none⟩) hgw).trans c6
      have HBB := Lib.hid hB
      have hk0 : (0 : Int) ≤ (k : Int) := by omega
      have hk1 : (k : Int) < (os.length : Int) := by omega
      clear ho hop c0 c1 c2 c3 c4 c5 c6 hB hbl
      by_cases hl : o.b.length ≤ 2000
      case neg =>
        have hl1 : (2000 : Int) < (o.b.length : Int) := by omega
        go_wp2_with fail
        go_ret
        refine ⟨rfl, ?_⟩
        repeat (first | exact HG.out | refine Below.setCell ?_ (by first | omega | (simp; done) | (simp; omega)) _ | refine Below.alloc ?_ (by first | omega | (simp; done) | (simp; omega)) _)
      case pos =>
        have hl1 : ¬ (2000 : Int) < (o.b.length : Int) := by omega
        have hA := HR.out.ahead q1 (L := k + 1) (by omega) o HBB.out
        have HA := Lib.hid hA
        clear hA
        go_upto_region 15 with (fail)
        have hNge : g < wr.heap.size := hgr
        clear hNge hgr
        generalize hN : wr.heap.size = N at HA ⊢
        generalize hW : ((wr.alloc (.cells #[.int .i64 o.kind, .int .i64 o.i, .int .i64 o.at1, .int .i64 o.fr, .int .i64 o.tt, .int .u8 (o.by1.toNat : Int), .slice bA o.b.length bc] 41)).alloc (.cells #[.slice A' ns.length c'] 26)).alloc (.cells #[.int .i64 0, .int .i64 0, .slice none 0 0, .bool false] 31) = W at HA ⊢
        clear hW n0 nf nl HG HR gz d0 d1 d2 d3 d4 d5 d6 HBB
        have n0 := HA.out.nbox.cell 0
        have nf := HA.out.nbox.free 0
        have nl := HA.out.nbox.lt
        have o0 := HA.out.obox.cell 0
        have o1 := HA.out.obox.cell 1
        have o2 := HA.out.obox.cell 2
        have o3 := HA.out.obox.cell 3
        have o4 := HA.out.obox.cell 4
        have o5 := HA.out.obox.cell 5
        have o6 := HA.out.obox.cell 6
        have ol := HA.out.obox.lt
        have m0 := HA.out.mbox.cell 0
        have mf := HA.out.mbox.free 0
        have ml := HA.out.mbox.lt
        simp only [List.getElem?_toArray, List.getElem?_cons_zero, List.getElem?_cons_succ] at n0 o0 o1 o2 o3 o4 o5 o6 m0
        go_upto_block 2 with fail
        go_cut [5, 9] (Sw w nb N (k + 1) o (.slice bA o.b.length bc) ns A' c')
        case first =>
          have hsm : ∀ f ∈ ns, f.b.length ≤ 1000000 := fun f hf => Nat.le_trans (HA.out.inv.small f hf) (by omega)
          have HS := Lib.hid hsm
          have hfew := HA.out.inv.few
          have hln : ns.length ≤ 1000 := by omega
          have hI1 : o.i ≤ 9223372036854775807 := hi
          have hA1 : o.at1 ≤ 9223372036854775807 := hat
          clear hsm hi hat
          by_cases hd0 : o.kind = 0
          case pos =>
            have hkd := hd0
            have hq0 : (o.kind == 0) = true := by rw [hkd]; rfl
            have hq1 : (o.kind == 1) = false := by rw [hkd]; rfl
            have hq2 : (o.kind == 2) = false := by rw [hkd]; rfl
            have hq3 : (o.kind == 3) = false := by rw [hkd]; rfl
            have hq4 : (o.kind == 4) = false := by rw [hkd]; rfl
            have hq5 : (o.kind == 5) = false := by rw [hkd]; rfl
            have HD := Lib.hid hd0
            clear hd0 hkd
            as_aux_lemma =>
              by_cases hroom : ns.length < 40
              case neg =>
                  go_wp2_with fail
                  refine (send_full _ ns o.fr o.tt _ o.b _ HA.out.net (HA.out.bby.later HA.out.low) hln HS.out (by omega)).mono ?_
                  rintro e w2 ⟨v2, rfl, hf2, hb2⟩
                  obtain ⟨A2, c2, rfl⟩ := hf2.shape
                  have HN2 := Lib.hid hf2
                  clear hf2
                  have HA2 := Lib.hid (HA.out.later hb2)
                  have m1 := HA2.out.mbox.cell 0
                  have mf1 := HA2.out.mbox.free 0
                  have ml1 := HA2.out.mbox.lt
                  simp only [List.getElem?_toArray, List.getElem?_cons_zero] at m1
                  go_wp2_with fail
                  go_meet
                  case rel => exact (HA2.out.sw_m HN2.out.netAt (fun _ => HA2.out.inv) (fun _ => by rw [HD.out]; decide)).later ((Below.refl _ _).alloc (Nat.le_refl _) _)
              case pos =>
                  go_wp2_with fail
                  refine (send_ok _ ns o.fr o.tt _ o.b _ HA.out.net (HA.out.bby.later HA.out.low) hln HS.out (by omega) hroom).mono ?_
                  rintro e w2 ⟨v2, rfl, hf2, hb2⟩
                  obtain ⟨A2, c2, rfl⟩ := hf2.shape
                  have HI2 := Lib.hid (HA.out.inv.send hroom o.fr o.tt o.b hl)
                  have hbase : N + 1 + 1 < W.heap.size := HA.out.fbox.lt
                  generalize ns ++ [⟨o.fr, o.tt, o.b, false⟩] = gs at hf2 HI2 ⊢
                  have HN2 := Lib.hid hf2
                  clear hf2
                  have HA2 := Lib.hid (HA.out.later hb2)
                  have m1 := HA2.out.mbox.cell 0
                  have mf1 := HA2.out.mbox.free 0
                  have ml1 := HA2.out.mbox.lt
                  simp only [List.getElem?_toArray, List.getElem?_cons_zero] at m1
                  have o3 := HA2.out.obox.cell 3
                  have o4 := HA2.out.obox.cell 4
                  have o6 := HA2.out.obox.cell 6
                  have ol := HA2.out.obox.lt
                  simp only [List.getElem?_toArray, List.getElem?_cons_zero, List.getElem?_cons_succ] at o3 o4 o6
                  have HROW := Lib.hid (own_below (own_put HA2.out.row (own_ne HA2.out.row HA2.out.mbox (by decide)) 0 (.slice A2 gs.length c2)) (((Below.refl _ _).alloc (Nat.le_refl _) (.cells #[.slice A2 gs.length c2] 26)).alloc (by simp) (.cells #[.int .i64 o.fr, .int .i64 o.tt, .slice bA o.b.length bc, .bool false] 31)))
                  have hpl : ps.length ≤ 1000 := by have := HA2.out.len; omega
                  have hwz : w.heap.size ≤ w2.heap.size := HA2.out.low.size
                  go_wp2_with (at_builtin; refine wpList_append_own _ rfl (.tmp 60) (.tmp 68) 24 rfl w.heap.size 31 i31 _ 4 48 Try.underlying24 HI0.out HZZ.out HZ1'.out HZ2'.out rfl (by decide) u5 ps.length (ps.flatMap pcells) rfl HROW.out ⟨w2.heap.size + 1, 0, none⟩ 1 1 (pcells (⟨o.fr, o.tt, o.b, false⟩, .slice bA o.b.length bc)) rfl rfl ?c1 ?c2 ?c3 ?c4 ?c5 ?_)
                  case c1 =>
                    have hsz : ((w2.setCell ⟨N + 1, 0, none⟩ (.slice A2 gs.length c2)).alloc (.cells #[.slice A2 gs.length c2] 26)).heap.size = w2.heap.size + 1 := by simp
                    have := World.news_of_block (cs := #[.int .i64 o.fr, .int .i64 o.tt, .slice bA o.b.length bc, .bool false]) (t := 31) (fr := (0, 0)) (heap_alloc_new ((w2.setCell ⟨N + 1, 0, none⟩ (.slice A2 gs.length c2)).alloc (.cells #[.slice A2 gs.length c2] 26)) (.cells #[.int .i64 o.fr, .int .i64 o.tt, .slice bA o.b.length bc, .bool false] 31))
                    rw [hsz] at this
                    exact this
                  case c2 => simp [pcells, Value.oneCell']
                  case c3 => simp only [maxLen]; omega
                  case c4 => omega
                  case c5 => simp; omega
                  intro v' w5 hown hgrow _
                  have HFIN := Lib.hid (HA2.out.sw_send HN2.out hbase HI2.out (by rw [HD.out]; decide) hown hgrow)
                  clear hown hgrow
                  go_wp2_with fail
                  go_meet
                  case rel => exact HFIN.out
          by_cases hd1 : o.kind = 1
          case pos =>
            have hkd := hd1
            have hq0 : (o.kind == 0) = false := by rw [hkd]; rfl
            have hq1 : (o.kind == 1) = true := by rw [hkd]; rfl
            have hq2 : (o.kind == 2) = false := by rw [hkd]; rfl
            have hq3 : (o.kind == 3) = false := by rw [hkd]; rfl
            have hq4 : (o.kind == 4) = false := by rw [hkd]; rfl
            have hq5 : (o.kind == 5) = false := by rw [hkd]; rfl
            have HD := Lib.hid hd1
            clear hd0 hd1 hkd
            as_aux_lemma =>
              by_cases hne : ns = []
              case pos =>
                  subst hne
                  go_wp2_with fail
                  refine (take_none _ o.i _ HA.out.net).mono ?_
                  rintro e w2 ⟨rfl, hb2⟩
                  have HA2 := Lib.hid (HA.out.later hb2)
                  have m1 := HA2.out.mbox.cell 0
                  have mf1 := HA2.out.mbox.free 0
                  have ml1 := HA2.out.mbox.lt
                  simp only [List.getElem?_toArray, List.getElem?_cons_zero] at m1
                  have ff0 := HA2.out.fbox.free 0
                  have ff1 := HA2.out.fbox.free 1
                  have ff2 := HA2.out.fbox.free 2
                  have ff3 := HA2.out.fbox.free 3
                  have f0 := HA2.out.fbox.cell 0
                  have f1 := HA2.out.fbox.cell 1
                  have f2 := HA2.out.fbox.cell 2
                  have f3 := HA2.out.fbox.cell 3
                  have fl := HA2.out.fbox.lt
                  simp only [List.getElem?_toArray, List.getElem?_cons_zero, List.getElem?_cons_succ] at f0 f1 f2 f3
                  go_wp2_with fail
                  go_meet
                  case rel => exact HA2.out.sw_mf (ms := []) (f := ⟨0, 0, [], false⟩) (base := 0) ⟨none, 0, rfl, fun hp => absurd hp (by simp)⟩ (fun h => absurd h (by decide)) (fun h => absurd h (by decide)) (fun h => absurd h (by decide))
              case neg =>
                  obtain ⟨j, f, hf, hj⟩ := of_some hne o.i
                  have HF := Lib.hid hf
                  have HJ := Lib.hid hj
                  clear hf hj hne
                  go_wp2_with fail
                  refine (take_some _ ns o.i j f _ HA.out.net HF.out HJ.out hI1 hln HS.out).mono ?_
                  rintro e w2 ⟨v2, B2, d2, rfl, hf2, hB2, hb2⟩
                  obtain ⟨A2, c2, rfl⟩ := hf2.shape
                  have HF2 := Lib.hid hf2
                  have HB2 := Lib.hid hB2
                  have hbase : N + 1 + 1 < W.heap.size := HA.out.fbox.lt
                  clear hf2 hB2
                  have HA2 := Lib.hid (HA.out.later hb2)
                  have m1 := HA2.out.mbox.cell 0
                  have mf1 := HA2.out.mbox.free 0
                  have ml1 := HA2.out.mbox.lt
                  simp only [List.getElem?_toArray, List.getElem?_cons_zero] at m1
                  have ff0 := HA2.out.fbox.free 0
                  have ff1 := HA2.out.fbox.free 1
                  have ff2 := HA2.out.fbox.free 2
                  have ff3 := HA2.out.fbox.free 3
                  have f0 := HA2.out.fbox.cell 0
                  have f1 := HA2.out.fbox.cell 1
                  have f2 := HA2.out.fbox.cell 2
                  have f3 := HA2.out.fbox.cell 3
                  have fl := HA2.out.fbox.lt
                  simp only [List.getElem?_toArray, List.getElem?_cons_zero, List.getElem?_cons_succ] at f0 f1 f2 f3
                  go_wp2_with fail
                  go_meet
                  case rel => exact HA2.out.sw_mf HB2.out (fun _ => hbase) (fun _ => HF2.out) (fun _ => ⟨HA2.out.inv.erase j, fun _ => ⟨HA2.out.inv.ok f (List.mem_of_getElem? HF.out), HA2.out.inv.small f (List.mem_of_getElem? HF.out)⟩⟩)
          by_cases hd2 : o.kind = 2
          case pos =>
            have hkd := hd2
            have hq0 : (o.kind == 0) = false := by rw [hkd]; rfl
            have hq1 : (o.kind == 1) = false := by rw [hkd]; rfl
            have hq2 : (o.kind == 2) = true := by rw [hkd]; rfl
            have hq3 : (o.kind == 3) = false := by rw [hkd]; rfl
            have hq4 : (o.kind == 4) = false := by rw [hkd]; rfl
            have hq5 : (o.kind == 5) = false := by rw [hkd]; rfl
            have HD := Lib.hid hd2
            clear hd0 hd1 hd2 hkd
            as_aux_lemma =>
              by_cases hne : ns = []
              case pos =>
                  subst hne
                  go_wp2_with fail
                  refine (drop_none _ o.i _ HA.out.net).mono ?_
                  rintro e w2 ⟨v2, rfl, hn2, hb2⟩
                  obtain ⟨A2, c2, rfl⟩ := hn2.shape
                  have HN2 := Lib.hid hn2
                  clear hn2
                  have HA2 := Lib.hid (HA.out.later hb2)
                  have m1 := HA2.out.mbox.cell 0
                  have mf1 := HA2.out.mbox.free 0
                  have ml1 := HA2.out.mbox.lt
                  simp only [List.getElem?_toArray, List.getElem?_cons_zero] at m1
                  go_wp2_with fail
                  go_meet
                  case rel => exact HA2.out.sw_m HN2.out (fun h => absurd h (by decide)) (fun h => absurd h (by decide))
              case neg =>
                  obtain ⟨j, f, hf, hj⟩ := of_some hne o.i
                  have HF := Lib.hid hf
                  have HJ := Lib.hid hj
                  clear hf hj hne
                  go_wp2_with fail
                  refine (drop_some _ ns o.i j f _ HA.out.net HF.out HJ.out hI1 hln HS.out).mono ?_
                  rintro e w2 ⟨v2, rfl, hn2, hb2⟩
                  obtain ⟨A2, c2, rfl⟩ := hn2.shape
                  have HN2 := Lib.hid hn2
                  clear hn2
                  have HA2 := Lib.hid (HA.out.later hb2)
                  have m1 := HA2.out.mbox.cell 0
                  have mf1 := HA2.out.mbox.free 0
                  have ml1 := HA2.out.mbox.lt
                  simp only [List.getElem?_toArray, List.getElem?_cons_zero] at m1
                  go_wp2_with fail
                  go_meet
                  case rel => exact HA2.out.sw_m HN2.out (fun _ => HA2.out.inv.erase j) (fun _ => by rw [HD.out]; decide)
          by_cases hd3 : o.kind = 3
          case pos =>
            have hkd := hd3
            have hq0 : (o.kind == 0) = false := by rw [hkd]; rfl
            have hq1 : (o.kind == 1) = false := by rw [hkd]; rfl
            have hq2 : (o.kind == 2) = false := by rw [hkd]; rfl
            have hq3 : (o.kind == 3) = true := by rw [hkd]; rfl
            have hq4 : (o.kind == 4) = false := by rw [hkd]; rfl
            have hq5 : (o.kind == 5) = false := by rw [hkd]; rfl
            have HD := Lib.hid hd3
            clear hd0 hd1 hd2 hd3 hkd
            as_aux_lemma =>
              by_cases hne : ns = []
              case pos =>
                  subst hne
                  go_wp2_with fail
                  refine (double_none _ o.i _ HA.out.net).mono ?_
                  rintro e w2 ⟨v2, rfl, hn2, hb2⟩
                  obtain ⟨A2, c2, rfl⟩ := hn2.shape
                  have HN2 := Lib.hid hn2
                  clear hn2
                  have HA2 := Lib.hid (HA.out.later hb2)
                  have m1 := HA2.out.mbox.cell 0
                  have mf1 := HA2.out.mbox.free 0
                  have ml1 := HA2.out.mbox.lt
                  simp only [List.getElem?_toArray, List.getElem?_cons_zero] at m1
                  go_wp2_with fail
                  go_meet
                  case rel => exact HA2.out.sw_m HN2.out (fun h => absurd h (by decide)) (fun h => absurd h (by decide))
              case neg =>
                  obtain ⟨j, f, hf, hj⟩ := of_some hne o.i
                  have HF := Lib.hid hf
                  have HJ := Lib.hid hj
                  clear hf hj hne
                  by_cases hroom : ns.length < 40
                  case neg =>
                    go_wp2_with fail
                    refine (double_full _ ns o.i _ HA.out.net (by omega) (by omega)).mono ?_
                    rintro e w2 ⟨v2, rfl, hn2, hb2⟩
                    obtain ⟨A2, c2, rfl⟩ := hn2.shape
                    have HN2 := Lib.hid hn2
                    clear hn2
                    have HA2 := Lib.hid (HA.out.later hb2)
                    have m1 := HA2.out.mbox.cell 0
                    have mf1 := HA2.out.mbox.free 0
                    have ml1 := HA2.out.mbox.lt
                    simp only [List.getElem?_toArray, List.getElem?_cons_zero] at m1
                    go_wp2_with fail
                    go_meet
                    case rel => exact HA2.out.sw_m HN2.out (fun h => absurd h (by decide)) (fun h => absurd h (by decide))
                  case pos =>
                    go_wp2_with fail
                    refine (double_ok _ ns o.i j f _ HA.out.net HF.out HJ.out hI1 hroom HS.out).mono ?_
                    rintro e w2 ⟨v2, rfl, hn2, hb2⟩
                    obtain ⟨A2, c2, rfl⟩ := hn2.shape
                    have HI2 := Lib.hid (HA.out.inv.double hroom (List.mem_of_getElem? HF.out))
                    generalize ns ++ [f] = gs at hn2 HI2 ⊢
                    have HN2 := Lib.hid hn2
                    clear hn2
                    have HA2 := Lib.hid (HA.out.later hb2)
                    have m1 := HA2.out.mbox.cell 0
                    have mf1 := HA2.out.mbox.free 0
                    have ml1 := HA2.out.mbox.lt
                    simp only [List.getElem?_toArray, List.getElem?_cons_zero] at m1
                    go_wp2_with fail
                    go_meet
                    case rel => exact HA2.out.sw_m HN2.out (fun _ => HI2.out) (fun _ => by rw [HD.out]; decide)
          by_cases hd4 : o.kind = 4
          case pos =>
            have hkd := hd4
            have hq0 : (o.kind == 0) = false := by rw [hkd]; rfl
            have hq1 : (o.kind == 1) = false := by rw [hkd]; rfl
            have hq2 : (o.kind == 2) = false := by rw [hkd]; rfl
            have hq3 : (o.kind == 3) = false := by rw [hkd]; rfl
            have hq4 : (o.kind == 4) = true := by rw [hkd]; rfl
            have hq5 : (o.kind == 5) = false := by rw [hkd]; rfl
            have HD := Lib.hid hd4
            clear hd0 hd1 hd2 hd3 hd4 hkd
            as_aux_lemma =>
              by_cases hne : ns = []
              case pos =>
                  subst hne
                  go_wp2_with fail
                  refine (turn_none _ o.i o.at1 (o.by1.toNat : Int) _ HA.out.net).mono ?_
                  rintro e w2 ⟨rfl, hb2⟩
                  have HA2 := Lib.hid (HA.out.later hb2)
                  have m1 := HA2.out.mbox.cell 0
                  have mf1 := HA2.out.mbox.free 0
                  have ml1 := HA2.out.mbox.lt
                  simp only [List.getElem?_toArray, List.getElem?_cons_zero] at m1
                  go_wp2_with fail
                  go_meet
                  case rel => exact HA2.out.sw_m (ms := []) (netNil _) (fun h => absurd h (by decide)) (fun h => absurd h (by decide))
              case neg =>
                  obtain ⟨j, f, hf, hj⟩ := of_some hne o.i
                  have HF := Lib.hid hf
                  have HJ := Lib.hid hj
                  clear hf hj hne
                  by_cases hbad : f.bad = true
                  case pos =>
                    go_wp2_with fail
                    refine (turn_bad _ ns o.i o.at1 o.by1 j f _ HA.out.net HF.out HJ.out hI1 hln HS.out hbad).mono ?_
                    rintro e w2 ⟨rfl, hb2⟩
                    have HA2 := Lib.hid (HA.out.later hb2)
                    have m1 := HA2.out.mbox.cell 0
                    have mf1 := HA2.out.mbox.free 0
                    have ml1 := HA2.out.mbox.lt
                    simp only [List.getElem?_toArray, List.getElem?_cons_zero] at m1
                    go_wp2_with fail
                    go_meet
                    case rel => exact HA2.out.sw_m (ms := []) (netNil _) (fun h => absurd h (by decide)) (fun h => absurd h (by decide))
                  have hbad2 : f.bad = false := by simpa using hbad
                  have HBA := Lib.hid hbad2
                  clear hbad hbad2
                  by_cases hy : ((o.by1.toNat : Int) == 0) = true
                  case pos =>
                    go_wp2_with fail
                    refine (turn_zero _ ns o.i o.at1 o.by1 j f _ HA.out.net HF.out HJ.out hI1 hln HS.out HBA.out hy).mono ?_
                    rintro e w2 ⟨rfl, hb2⟩
                    have HA2 := Lib.hid (HA.out.later hb2)
                    have m1 := HA2.out.mbox.cell 0
                    have mf1 := HA2.out.mbox.free 0
                    have ml1 := HA2.out.mbox.lt
                    simp only [List.getElem?_toArray, List.getElem?_cons_zero] at m1
                    go_wp2_with fail
                    go_meet
                    case rel => exact HA2.out.sw_m (ms := []) (netNil _) (fun h => absurd h (by decide)) (fun h => absurd h (by decide))
                  have hy2 : ((o.by1.toNat : Int) == 0) = false := by simpa using hy
                  have HY := Lib.hid hy2
                  clear hy hy2
                  by_cases hv : ((f.b.length : Int) == 0) = true
                  case pos =>
                    go_wp2_with fail
                    refine (turn_void _ ns o.i o.at1 o.by1 j f _ HA.out.net HF.out HJ.out hI1 hln HS.out HBA.out HY.out hv).mono ?_
                    rintro e w2 ⟨rfl, hb2⟩
                    have HA2 := Lib.hid (HA.out.later hb2)
                    have m1 := HA2.out.mbox.cell 0
                    have mf1 := HA2.out.mbox.free 0
                    have ml1 := HA2.out.mbox.lt
                    simp only [List.getElem?_toArray, List.getElem?_cons_zero] at m1
                    go_wp2_with fail
                    go_meet
                    case rel => exact HA2.out.sw_m (ms := []) (netNil _) (fun h => absurd h (by decide)) (fun h => absurd h (by decide))
                  have hv2 : ((f.b.length : Int) == 0) = false := by simpa using hv
                  have HV := Lib.hid hv2
                  clear hv hv2
                  obtain ⟨q, x, hx, hq⟩ := of_byte HV.out o.at1
                  have HX := Lib.hid hx
                  have HQ := Lib.hid hq
                  clear hx hq
                  have HI2 := Lib.hid (HA.out.inv.turn HF.out HBA.out HX.out (y := o.by1) (y_ne HY.out))
                  go_wp2_with fail
                  refine (turn_ok _ ns o.i o.at1 o.by1 j f _ HA.out.net HF.out HJ.out hI1 hln HS.out HBA.out HY.out HV.out q x HX.out HQ.out hA1).mono ?_
                  rintro e w2 ⟨v2, rfl, hf2, hb2⟩
                  obtain ⟨A2, c2, rfl⟩ := hf2.shape
                  generalize ns.set j (turnF f q (x ^^^ o.by1)) = gs at hf2 HI2 ⊢
                  have HN2 := Lib.hid hf2.netAt
                  clear hf2
                  have HA2 := Lib.hid (HA.out.later hb2)
                  have m1 := HA2.out.mbox.cell 0
                  have mf1 := HA2.out.mbox.free 0
                  have ml1 := HA2.out.mbox.lt
                  simp only [List.getElem?_toArray, List.getElem?_cons_zero] at m1
                  go_wp2_with fail
                  go_meet
                  case rel => exact HA2.out.sw_m HN2.out (fun _ => HI2.out) (fun _ => by rw [HD.out]; decide)
          by_cases hd5 : o.kind = 5
          case pos =>
            have hkd := hd5
            have hq0 : (o.kind == 0) = false := by rw [hkd]; rfl
            have hq1 : (o.kind == 1) = false := by rw [hkd]; rfl
            have hq2 : (o.kind == 2) = false := by rw [hkd]; rfl
            have hq3 : (o.kind == 3) = false := by rw [hkd]; rfl
            have hq4 : (o.kind == 4) = false := by rw [hkd]; rfl
            have hq5 : (o.kind == 5) = true := by rw [hkd]; rfl
            have HD := Lib.hid hd5
            clear hd0 hd1 hd2 hd3 hd4 hd5 hkd
            as_aux_lemma =>
              go_wp2_with fail
              refine (clear_any _ ns o.fr o.tt _ HA.out.net hln HS.out).mono ?_
              rintro e w2 ⟨v2, rfl, hf2, hb2⟩
              obtain ⟨A2, c2, rfl⟩ := hf2.shape
              have HN2 := Lib.hid hf2.netAt
              clear hf2
              have HA2 := Lib.hid (HA.out.later hb2)
              have m1 := HA2.out.mbox.cell 0
              have mf1 := HA2.out.mbox.free 0
              have ml1 := HA2.out.mbox.lt
              simp only [List.getElem?_toArray, List.getElem?_cons_zero] at m1
              go_wp2_with fail
              go_meet
              case rel => exact HA2.out.sw_m HN2.out (fun _ => HA2.out.inv.filter _) (fun _ => by rw [HD.out]; decide)
          have hq0 : (o.kind == 0) = false := by simpa using hd0
          have hq1 : (o.kind == 1) = false := by simpa using hd1
          have hq2 : (o.kind == 2) = false := by simpa using hd2
          have hq3 : (o.kind == 3) = false := by simpa using hd3
          have hq4 : (o.kind == 4) = false := by simpa using hd4
          have hq5 : (o.kind == 5) = false := by simpa using hd5
          have HD := Lib.hid hd1
          clear hd0 hd1 hd2 hd3 hd4 hd5
          go_wp2_with fail
          go_meet
          case rel => exact HA.out.sw_same HD.out
        case rest =>
          obtain ⟨e, ps', ms, A2, c2, f, B, d, rfl, hpl, hrow, hby, hnb, hob, hmb, hfb, hfB, hne0, he0, hlow⟩ := hcut
          clear n0 nf nl o0 o1 o2 o3 o4 o5 o6 ol m0 mf ml HA
          by_cases he : e = 0
          case neg =>
            as_aux_lemma =>
              have he1 : (e == 0) = false := by simpa using he
              have he2 : (e != 0) = true := by simpa using he
              obtain ⟨hI, hN⟩ := hne0 he
              have HR2 := Lib.hid (show Rnd w nb _ ps' ns A' c' wc from ⟨hI, hrow, hby, hnb, hN, hlow⟩)
              clear hne0 he0 hrow hby hnb hob hmb hfb hfB hI hN hlow he
              go_wp2_with fail
              go_roundg (os.length - k - 1)
              case measure => have := HK.out; omega
              case rel => exact ⟨k + 1, ps', ns, A', c', by have := HK.out; omega, by go_num, hpl, HR2.out⟩
          case pos =>
            subst he
            obtain ⟨hI, hNm, hOk⟩ := he0 rfl
            have hfew : (ms.length : Int) ≤ 40 := by have := hI.few; omega
            have hfew2 : ¬ (40 : Int) < (ms.length : Int) := by omega
            have HI := Lib.hid hI
            have HNM := Lib.hid hNm
            have HOK := Lib.hid hOk
            have HROW := Lib.hid hrow
            have HBY := Lib.hid hby
            have HNB := Lib.hid hnb
            have HLOW := Lib.hid hlow
            have k0 := hob.cell 0
            have kl := hob.lt
            simp only [List.getElem?_toArray, List.getElem?_cons_zero] at k0
            by_cases hk1 : (o.kind == 1) = true
            case neg =>
              as_aux_lemma =>
                have hk2 : (o.kind == 1) = false := by simpa using hk1
                have m0 := hmb.cell 0
                have ml := hmb.lt
                have nf := hnb.free 0
                have n0 := hnb.cell 0
                have nl := hnb.lt
                simp only [List.getElem?_toArray, List.getElem?_cons_zero] at m0 n0
                clear hk1 hne0 he0 hrow hby hnb hob hmb hfb hfB hI hNm hOk hlow
                go_wp2_with fail
                go_roundg (os.length - k - 1)
                case measure => have := HK.out; omega
                case rel => exact ⟨k + 1, ps', ms, A2, c2, by have := HK.out; omega, by go_num, hpl, rnd_next HROW.out HBY.out HNB.out HNM.out HI.out HLOW.out q1 (Below.refl _ _)⟩
            case pos =>
              as_aux_lemma =>
                obtain ⟨hOkay, hfl⟩ := hOk (by simpa using hk1)
                have hps : 0 < ps'.length := by
                  obtain ⟨s, hs, _⟩ := hOkay
                  have := List.length_pos_of_mem hs
                  simpa using this
                obtain ⟨g5, cap5, hv5⟩ : ∃ g cap, u5 = .slice (some ⟨g, 0, none⟩) ps'.length cap := Go.Joins.ownsRow_form hrow hps
                have HMB := Lib.hid hmb
                have HFB := Lib.hid hfb
                have HFBY := Lib.hid hfB
                have HOKAY := Lib.hid hOkay
                have HFL := Lib.hid hfl
                subst hv5
                clear hne0 he0 hrow hby hnb hob hmb hfb hfB hI hNm hOk hlow hOkay hfl
                go_wp2_with fail
                go_loopg [13, 14] ps'.length (fun gj q i wj => ∃ j : Nat, j + gj = ps'.length ∧ i = .int .i64 j ∧ q = .bool (((fstOf ps').take j).any fun s => From1 s f) ∧ Below wc.heap.size wc wj)
                case atStart => exact ⟨0, by omega, rfl, by simp, Below.refl _ _⟩
                case round =>
                  obtain ⟨j, hj, rfl, rfl, hW⟩ := hrel
                  have HJ := Lib.hid hj
                  have hj' : j ≤ ps'.length := by omega
                  have HW := Lib.hid hW
                  have hrj := own_below HROW.out hW
                  have hfj := HFB.out.later hW
                  have hbj := HFBY.out.later hW
                  have hmj := HMB.out.later hW
                  have hnj := HNB.out.later hW
                  clear hj hW k0 kl
                  by_cases hjl : j < ps'.length
                  case neg =>
                    as_aux_lemma =>
                      obtain rfl : j = ps'.length := by omega
                      have hall : ((fstOf ps').take ps'.length).any (fun s => From1 s f) = true := by
                        obtain ⟨s, hs, hF⟩ := HOKAY.out
                        rw [List.take_of_length_le (by simp)]
                        exact List.any_eq_true.2 ⟨s, hs, hF⟩
                      rw [hall]
                      have m0 := hmj.cell 0
                      have ml := hmj.lt
                      have nf := hnj.free 0
                      have n0 := hnj.cell 0
                      have nl := hnj.lt
                      simp only [List.getElem?_toArray, List.getElem?_cons_zero] at m0 n0
                      clear hrj hfj hbj hmj hnj hall
                      go_wp2_with fail
                      go_roundg (os.length - k - 1)
                      case measure => have := HK.out; omega
                      case rel => exact ⟨k + 1, ps', ms, A2, c2, by have := HK.out; omega, by go_num, hpl, rnd_next HROW.out HBY.out HNB.out HNM.out HI.out HLOW.out q1 HW.out⟩
                  case pos =>
                    as_aux_lemma =>
                      obtain ⟨⟨s, sv⟩, hs⟩ : ∃ p, ps'[j]? = some p := ⟨_, List.getElem?_eq_getElem hjl⟩
                      have hsB := (HBY.out _ (List.mem_of_getElem? hs)).later (below_on HLOW.out.size HLOW.out HW.out)
                      have hsl : s.b.length ≤ 2000 := HI.out.sent s (List.mem_map.2 ⟨_, List.mem_of_getElem? hs, rfl⟩)
                      dsimp only at hsB
                      obtain ⟨sA, sc, rfl⟩ := hsB.shape
                      have s0 : wr.cell? ⟨g5, j * 4, none⟩ = some (.int .i64 s.fr) := by rw [show j * 4 = j * 4 + 0 from rfl, hrj.cellAt (j * 4 + 0) (by omega), pflat _ _ _ hs 0 (by omega)]; rfl
                      have s1 : wr.cell? ⟨g5, j * 4 + 1, none⟩ = some (.int .i64 s.to) := by rw [hrj.cellAt (j * 4 + 1) (by omega), pflat _ _ _ hs 1 (by omega)]; rfl
                      have s2 : wr.cell? ⟨g5, j * 4 + 2, none⟩ = some (.slice sA s.b.length sc) := by rw [hrj.cellAt (j * 4 + 2) (by omega), pflat _ _ _ hs 2 (by omega)]; rfl
                      have s3 : wr.cell? ⟨g5, j * 4 + 3, none⟩ = some (.bool s.bad) := by rw [hrj.cellAt (j * 4 + 3) (by omega), pflat _ _ _ hs 3 (by omega)]; rfl
                      have hj0 : (0 : Int) ≤ (j : Int) := by omega
                      have hj1 : (j : Int) < (ps'.length : Int) := by omega
                      have hany : ((fstOf ps').take (j + 1)).any (fun s => From1 s f) = (((fstOf ps').take j).any (fun s => From1 s f) || From1 s f) := by
                        have he : (fstOf ps')[j]? = some s := by simp [fstOf, hs]
                        rw [List.take_add_one, he, List.any_append]
                        simp
                      have HANY := Lib.hid hany
                      generalize ((fstOf ps').take j).any (fun s => From1 s f) = Q at HANY ⊢
                      have f0 := hfj.cell 0
                      have f1 := hfj.cell 1
                      have f2 := hfj.cell 2
                      have f3 := hfj.cell 3
                      have fl := hfj.lt
                      simp only [List.getElem?_toArray, List.getElem?_cons_zero, List.getElem?_cons_succ] at f0 f1 f2 f3
                      have x1 : Below wr.heap.size wr (wr.alloc (.cells #[.int .i64 s.fr, .int .i64 s.to, .slice sA s.b.length sc, .bool s.bad] 31)) := (Below.refl _ _).alloc (Nat.le_refl _) _
                      have HSB := Lib.hid (hsB.later x1)
                      have HFJ := Lib.hid (hbj.later x1)
                      have HFX := Lib.hid (hfj.later x1)
                      have HSX := Lib.hid (HasBlk.fresh wr 31 #[.int .i64 s.fr, .int .i64 s.to, .slice sA s.b.length sc, .bool s.bad])
                      have HWX := Lib.hid (below_on HW.out.size HW.out x1)
                      clear hrj hfj hbj hmj hnj hs hsB hany x1
                      go_wp2_with fail
                      refine (turned_any _ _ s.b f.b _ HSB.out HFJ.out (by omega)).mono ?_
                      rintro e w9 ⟨rfl, hb9⟩
                      have hsx := HSX.out.later hb9
                      have hfx := HFX.out.later hb9
                      have v1 : (convert 27 9 (.slice sA s.b.length sc)).run Try.prog w9 = .ok (.string (strOf s.b)) w9 := conv_bytes (HSB.out.later hb9)
                      have v2 : (convert 27 9 (.slice B f.b.length d)).run Try.prog w9 = .ok (.string (strOf f.b)) w9 := conv_bytes (HFJ.out.later hb9)
                      have HW9 := Lib.hid (below_on HWX.out.size HWX.out hb9)
                      obtain ⟨t1, ht1⟩ : ∃ t1, t1 = strOf s.b := ⟨_, rfl⟩
                      obtain ⟨t2, ht2⟩ : ∃ t2, t2 = strOf f.b := ⟨_, rfl⟩
                      rw [← ht1] at v1
                      rw [← ht2] at v2
                      have hh1 : t1.toList = s.b := by rw [ht1, strOf_list]
                      have hh2 : t2.toList = f.b := by rw [ht2, strOf_list]
                      have HT1 := Lib.hid hh1
                      have HT2 := Lib.hid hh2
                      have a0 := hsx.cell 0
                      have a1 := hsx.cell 1
                      have a2 := hsx.cell 2
                      have al := hsx.lt
                      clear f0 f1 f2 f3 fl s0 s1 s2 s3 ht1 ht2 hh1 hh2
                      have f0 := hfx.cell 0
                      have f1 := hfx.cell 1
                      have f2 := hfx.cell 2
                      have f3 := hfx.cell 3
                      have fl := hfx.lt
                      simp only [List.getElem?_toArray, List.getElem?_cons_zero, List.getElem?_cons_succ] at a0 a1 a2 f0 f1 f2 f3
                      clear hsx hfx hb9
                      cases Q with
                      | true =>
                        go_wp2_with fail
                        go_roundg (ps'.length - j - 1)
                        case measure => have := HJ.out; omega
                        case rel => exact ⟨j + 1, by have := HJ.out; omega, by go_num, by rw [HANY.out]; simp, HW9.out⟩
                      | false =>
                        by_cases c1 : (s.fr == f.fr) = true
                        case neg =>
                          have c1 : (s.fr == f.fr) = false := by simpa using c1
                          have HFR : Hid (From1 s f = false) := Lib.hid (by simp [From1, c1])
                          go_wp2_with fail
                          go_roundg (ps'.length - j - 1)
                          case measure => have := HJ.out; omega
                          case rel => exact ⟨j + 1, by have := HJ.out; omega, by go_num, by rw [HANY.out, HFR.out]; try simp, HW9.out⟩
                        case pos =>
                          by_cases c2 : (s.to == f.to) = true
                          case neg =>
                            have c2 : (s.to == f.to) = false := by simpa using c2
                            have HFR : Hid (From1 s f = false) := Lib.hid (by simp [From1, c2])
                            go_wp2_with fail
                            go_roundg (ps'.length - j - 1)
                            case measure => have := HJ.out; omega
                            case rel => exact ⟨j + 1, by have := HJ.out; omega, by go_num, by rw [HANY.out, HFR.out]; try simp, HW9.out⟩
                          case pos =>
                            by_cases c3 : f.bad = true
                            case pos =>
                              have HFR : Hid (From1 s f = turnB s.b f.b) := Lib.hid (by simp [From1, c1, c2, c3])
                              rw [c3] at f3
                              clear c3
                              go_wp2_with fail
                              go_roundg (ps'.length - j - 1)
                              case measure => have := HJ.out; omega
                              case rel => exact ⟨j + 1, by have := HJ.out; omega, by go_num, by rw [HANY.out, HFR.out]; try simp, HW9.out⟩
                            case neg =>
                              have c3 : f.bad = false := by simpa using c3
                              by_cases c4 : t1.toList = t2.toList
                              case pos =>
                                have HFR : Hid (From1 s f = true) := Lib.hid (by rw [HT1.out, HT2.out] at c4; simp [From1, c1, c2, c3, c4])
                                rw [c3] at f3
                                clear c3
                                go_wp2_with fail
                                go_roundg (ps'.length - j - 1)
                                case measure => have := HJ.out; omega
                                case rel => exact ⟨j + 1, by have := HJ.out; omega, by go_num, by rw [HANY.out, HFR.out]; try simp, HW9.out⟩
                              case neg =>
                                have HFR : Hid (From1 s f = false) := Lib.hid (by have c5 : ¬ s.b = f.b := (by rw [← HT1.out, ← HT2.out]; exact c4); simp [From1, c1, c2, c3, c5])
                                rw [c3] at f3
                                clear c3
                                go_wp2_with fail
                                go_roundg (ps'.length - j - 1)
                                case measure => have := HJ.out; omega
                                case rel => exact ⟨j + 1, by have := HJ.out; omega, by go_num, by rw [HANY.out, HFR.out]; simp [c4], HW9.out⟩
end Go.Proofs.Ytiognapakadggaa
