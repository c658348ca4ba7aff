/- append onto a row of the call's own, from whatever slice: an empty one, nil, any other. -/
import Derived.Test.YtiognapakadggaaRow
namespace Go.Proofs.Ytiognapakadggaa
open Go.RowKit

/-- The cells news lie where the slice A, of m elements, says. -/
def SrcAt (w : World) (A : Option Addr) (m : Nat) (news : List Value) : Prop := 0 < m → ∃ g o, A = some ⟨g, o, none⟩ ∧ ∀ j u, news[j]? = some u → w.cell? ⟨g, o + j, none⟩ = some u

theorem run_app {t e : TypeId} {z : Value} {size bytes : Nat} (hin : (Try.prog.info? e).map (fun i => (i.zero, i.size, i.bytes)) = some (some z, size, bytes)) (ht : Try.prog.underlying t = some (.slice e)) (hzs : z.cells.size = size) (hsz : 0 < size)
    {w : World} {base n m cs c : Nat} {As A : Option Addr} {xs news : List Value} (ty : TypeId) (hown : w.ownsRow base e size (.slice As n cs) n xs) (hl : news.length = m * size) (hnews : SrcAt w A m news) (h1 : ∀ u ∈ news, u.oneCell' = true)
    (hm : n + m ≤ maxLen) (hby : (n + m) * bytes ≤ 140737488355328) (hbase : base ≤ w.heap.size) :
    ∃ A' c' w', (Builtin.append_ #[t, t] ty #[.slice As n cs, .slice A m c]).run Try.prog w = .ok (.slice A' (n + m) c') w' ∧ w'.ownsRow base e size (.slice A' (n + m) c') (n + m) (xs ++ news) ∧ w.grownBy w' (Value.ownBlock (.slice As n cs)) := by
  obtain ⟨i, hi, hz, hs, hb⟩ := info_parts hin
  cases A with
  | none =>
    have h0 : m = 0 := by
      rcases Nat.eq_zero_or_pos m with h | h
      · exact h
      · obtain ⟨_, _, h, _⟩ := hnews h
        cases h
    subst h0
    have hn : news = [] := List.eq_nil_of_length_eq_zero (by simpa using hl)
    subst hn
    refine ⟨As, cs, w, ?_, by simpa using hown, ⟨rfl, rfl, rfl, Nat.le_refl _, fun _ _ _ => rfl⟩⟩
    have hle : n ≤ cs := by
      rcases hown.2 with ⟨hv, h0⟩ | ⟨g, cap, cur, hv, _, _, hnc, _⟩
      · omega
      · simp only [Value.slice.injEq] at hv
        omega
    cases As with
    | none => simp [Builtin.append_, run_underlying ht, sizeOf, typeInfo, hi, Builtin.lenOf, Builtin.firstCells, hle]
    | some a => simp [Builtin.append_, run_underlying ht, sizeOf, typeInfo, hi, Builtin.lenOf, Builtin.firstCells, hle, storeCells]
  | some ad =>
    obtain ⟨v', w', hr, h2, h3, _⟩ := run_append_own (P := Try.prog) w base t ty e i z size bytes ht hi hz hs hb hzs hsz _ n xs hown ad m c news hl (fun j u hu => by
      rcases Nat.eq_zero_or_pos m with h | h
      · subst h
        have hn : news = [] := List.eq_nil_of_length_eq_zero (by simpa using hl)
        subst hn
        simp at hu
      · obtain ⟨g, o, hA, hc⟩ := hnews h
        cases hA
        rw [Go.WideShapes.add_plain]
        exact hc j u hu) h1 hm hby hbase
    have hv : ∃ A' c', v' = .slice A' (n + m) c' := by
      rcases h2.2 with ⟨hv, h0⟩ | ⟨g, cap, cur, hv, _⟩
      · exact ⟨none, 0, by rw [hv, h0]⟩
      · exact ⟨_, _, hv⟩
    obtain ⟨A', c', rfl⟩ := hv
    exact ⟨A', c', w', hr, h2, h3⟩

section
variable {w : World} {base n m cs c : Nat} {As A : Option Addr} {xs news : List Value}

theorem wp_app {t e : TypeId} {z : Value} {size bytes : Nat} (hin : (Try.prog.info? e).map (fun i => (i.zero, i.size, i.bytes)) = some (some z, size, bytes)) (ht : Try.prog.underlying t = some (.slice e)) (hzs : z.cells.size = size) (hsz : 0 < size)
    {o : Oper} {a : Act} {K : Act → World → Prop} {Q : Exit → Act → World → Prop} (s x : Operand) (ho : o.op = .call { callee := .builtin .append, args := #[s, x], argTypes := #[t, t] })
    (hs : a.eval s = .slice As n cs) (hx : a.eval x = .slice A m c) (hown : w.ownsRow base e size (.slice As n cs) n xs) (hl : news.length = m * size) (hnews : SrcAt w A m news) (h1 : ∀ u ∈ news, u.oneCell' = true)
    (hm : n + m ≤ maxLen) (hby : (n + m) * bytes ≤ 140737488355328) (hbase : base ≤ w.heap.size)
    (h : ∀ A' c' w', w'.ownsRow base e size (.slice A' (n + m) c') (n + m) (xs ++ news) → w.grownBy w' (Value.ownBlock (.slice As n cs)) → K (a.put o.dst (.slice A' (n + m) c')) w') : o.wp Try.prog a w K Q := by
  obtain ⟨A', c', w', hr, h2, h3⟩ := run_app hin ht hzs hsz (c := c) o.type hown hl hnews h1 hm hby hbase
  unfold Oper.wp execOp
  simp only [ho, resolve, invoke, builtin, Sem.run_bind, Sem.run_pure, Result.andThen_ok, List.map_toArray, List.map_cons, List.map_nil, hs, hx, hr]
  exact h A' c' w' h2 h3

/-- Pieces onto a row of pieces. -/
theorem app31 {ops : Array Oper} {rest : List Oper} {o : Oper} {a : Act} {Q : Exit → Act → World → Prop} (hgd : o.guard = none) (s x : Operand) (ho : o.op = .call { callee := .builtin .append, args := #[s, x], argTypes := #[24, 24] })
    (hs : a.eval s = .slice As n cs) (hx : a.eval x = .slice A m c) (hown : w.ownsRow base 31 4 (.slice As n cs) n xs) (hl : news.length = m * 4) (hnews : SrcAt w A m news) (h1 : ∀ u ∈ news, u.oneCell' = true) (hm : n + m ≤ 1000) (hbase : base ≤ w.heap.size)
    (h : ∀ A' c' w', w'.ownsRow base 31 4 (.slice A' (n + m) c') (n + m) (xs ++ news) → w.grownBy w' (Value.ownBlock (.slice As n cs)) → wpList Try.prog ops Q rest (a.put o.dst (.slice A' (n + m) c')) w') : wpList Try.prog ops Q (o :: rest) a w :=
  wpList_plain hgd fun _ hK => wp_app Try.info31 Try.underlying24 rfl (by decide) s x ho hs hx hown hl hnews h1 (by simp only [maxLen]; omega) (by omega) hbase fun A' c' w' h2 h3 => hK _ _ (h A' c' w' h2 h3)
/-- Bytes onto a row of bytes. -/
theorem app5 {ops : Array Oper} {rest : List Oper} {o : Oper} {a : Act} {Q : Exit → Act → World → Prop} (hgd : o.guard = none) (s x : Operand) (ho : o.op = .call { callee := .builtin .append, args := #[s, x], argTypes := #[27, 27] })
    (hs : a.eval s = .slice As n cs) (hx : a.eval x = .slice A m c) (hown : w.ownsRow base 5 1 (.slice As n cs) n xs) (hl : news.length = m * 1) (hnews : SrcAt w A m news) (h1 : ∀ u ∈ news, u.oneCell' = true) (hm : n + m ≤ 1000000) (hbase : base ≤ w.heap.size)
    (h : ∀ A' c' w', w'.ownsRow base 5 1 (.slice A' (n + m) c') (n + m) (xs ++ news) → w.grownBy w' (Value.ownBlock (.slice As n cs)) → wpList Try.prog ops Q rest (a.put o.dst (.slice A' (n + m) c')) w') : wpList Try.prog ops Q (o :: rest) a w :=
  wpList_plain hgd fun _ hK => wp_app Try.info5 Try.underlying27 rfl (by decide) s x ho hs hx hown hl hnews h1 (by simp only [maxLen]; omega) (by omega) hbase fun A' c' w' h2 h3 => hK _ _ (h A' c' w' h2 h3)

/-- The same two at a step of a region that draws its order. -/
theorem step31 {ops : Array Oper} {o : Oper} {a : Act} {K : Act → World → Prop} {Q : Exit → Act → World → Prop} {E : Prop} (hgd : o.guard = none) (s x : Operand) (ho : o.op = .call { callee := .builtin .append, args := #[s, x], argTypes := #[24, 24] })
    (hs : a.eval s = .slice As n cs) (hx : a.eval x = .slice A m c) (hown : w.ownsRow base 31 4 (.slice As n cs) n xs) (hl : news.length = m * 4) (hnews : SrcAt w A m news) (h1 : ∀ u ∈ news, u.oneCell' = true) (hm : n + m ≤ 1000) (hbase : base ≤ w.heap.size)
    (h : ∀ A' c' w', w'.ownsRow base 31 4 (.slice A' (n + m) c') (n + m) (xs ++ news) → w.grownBy w' (Value.ownBlock (.slice As n cs)) → K (a.put o.dst (.slice A' (n + m) c')) w') : if Region.wanted o (yielded ops a.tmps) = true then Oper.wp Try.prog o a w K Q else E := by
  have hw : Region.wanted o (yielded ops a.tmps) = true := by simp [Region.wanted, hgd]
  rw [if_pos hw]
  exact wp_app Try.info31 Try.underlying24 rfl (by decide) s x ho hs hx hown hl hnews h1 (by simp only [maxLen]; omega) (by omega) hbase h
theorem step5 {ops : Array Oper} {o : Oper} {a : Act} {K : Act → World → Prop} {Q : Exit → Act → World → Prop} {E : Prop} (hgd : o.guard = none) (s x : Operand) (ho : o.op = .call { callee := .builtin .append, args := #[s, x], argTypes := #[27, 27] })
    (hs : a.eval s = .slice As n cs) (hx : a.eval x = .slice A m c) (hown : w.ownsRow base 5 1 (.slice As n cs) n xs) (hl : news.length = m * 1) (hnews : SrcAt w A m news) (h1 : ∀ u ∈ news, u.oneCell' = true) (hm : n + m ≤ 1000000) (hbase : base ≤ w.heap.size)
    (h : ∀ A' c' w', w'.ownsRow base 5 1 (.slice A' (n + m) c') (n + m) (xs ++ news) → w.grownBy w' (Value.ownBlock (.slice As n cs)) → K (a.put o.dst (.slice A' (n + m) c')) w') : if Region.wanted o (yielded ops a.tmps) = true then Oper.wp Try.prog o a w K Q else E := by
  have hw : Region.wanted o (yielded ops a.tmps) = true := by simp [Region.wanted, hgd]
  rw [if_pos hw]
  exact wp_app Try.info5 Try.underlying27 rfl (by decide) s x ho hs hx hown hl hnews h1 (by simp only [maxLen]; omega) (by omega) hbase h

theorem grown_none {w' : World} (h : w.grownBy w' none) : Below w.heap.size w w' := ⟨h.os, h.tape, h.output, h.size, fun k hk => h.block k hk (by simp)⟩

/-- The same onto nil. -/
theorem app31n {ops : Array Oper} {rest : List Oper} {o : Oper} {a : Act} {Q : Exit → Act → World → Prop} (hgd : o.guard = none) (s x : Operand) (ho : o.op = .call { callee := .builtin .append, args := #[s, x], argTypes := #[24, 24] })
    (hs : a.eval s = .slice none 0 0) (hx : a.eval x = .slice A m c) (hl : news.length = m * 4) (hnews : SrcAt w A m news) (h1 : ∀ u ∈ news, u.oneCell' = true) (hm : m ≤ 1000)
    (h : ∀ A' c' w', w'.ownsRow w.heap.size 31 4 (.slice A' m c') m news → Below w.heap.size w w' → wpList Try.prog ops Q rest (a.put o.dst (.slice A' m c')) w') : wpList Try.prog ops Q (o :: rest) a w := by
  refine wpList_plain hgd fun _ hK => wp_app Try.info31 Try.underlying24 rfl (by decide) s x ho hs hx (World.ownsRow_nil w w.heap.size 31 4) hl hnews h1 (by simp only [maxLen]; omega) (by omega) (Nat.le_refl _) fun A' c' w' h2 h3 => hK _ _ ?_
  simp only [Nat.zero_add, List.nil_append] at h2 ⊢
  exact h A' c' w' h2 (grown_none h3)
theorem app5n {ops : Array Oper} {rest : List Oper} {o : Oper} {a : Act} {Q : Exit → Act → World → Prop} (hgd : o.guard = none) (s x : Operand) (ho : o.op = .call { callee := .builtin .append, args := #[s, x], argTypes := #[27, 27] })
    (hs : a.eval s = .slice none 0 0) (hx : a.eval x = .slice A m c) (hl : news.length = m * 1) (hnews : SrcAt w A m news) (h1 : ∀ u ∈ news, u.oneCell' = true) (hm : m ≤ 1000000)
    (h : ∀ A' c' w', w'.ownsRow w.heap.size 5 1 (.slice A' m c') m news → Below w.heap.size w w' → wpList Try.prog ops Q rest (a.put o.dst (.slice A' m c')) w') : wpList Try.prog ops Q (o :: rest) a w := by
  refine wpList_plain hgd fun _ hK => wp_app Try.info5 Try.underlying27 rfl (by decide) s x ho hs hx (World.ownsRow_nil w w.heap.size 5 1) hl hnews h1 (by simp only [maxLen]; omega) (by omega) (Nat.le_refl _) fun A' c' w' h2 h3 => hK _ _ ?_
  simp only [Nat.zero_add, List.nil_append] at h2 ⊢
  exact h A' c' w' h2 (grown_none h3)
theorem step31n {ops : Array Oper} {o : Oper} {a : Act} {K : Act → World → Prop} {Q : Exit → Act → World → Prop} {E : Prop} (hgd : o.guard = none) (s x : Operand) (ho : o.op = .call { callee := .builtin .append, args := #[s, x], argTypes := #[24, 24] })
    (hs : a.eval s = .slice none 0 0) (hx : a.eval x = .slice A m c) (hl : news.length = m * 4) (hnews : SrcAt w A m news) (h1 : ∀ u ∈ news, u.oneCell' = true) (hm : m ≤ 1000)
    (h : ∀ A' c' w', w'.ownsRow w.heap.size 31 4 (.slice A' m c') m news → Below w.heap.size w w' → K (a.put o.dst (.slice A' m c')) w') : if Region.wanted o (yielded ops a.tmps) = true then Oper.wp Try.prog o a w K Q else E := by
  have hw : Region.wanted o (yielded ops a.tmps) = true := by simp [Region.wanted, hgd]
  rw [if_pos hw]
  refine wp_app Try.info31 Try.underlying24 rfl (by decide) s x ho hs hx (World.ownsRow_nil w w.heap.size 31 4) hl hnews h1 (by simp only [maxLen]; omega) (by omega) (Nat.le_refl _) fun A' c' w' h2 h3 => ?_
  simp only [Nat.zero_add, List.nil_append] at h2 ⊢
  exact h A' c' w' h2 (grown_none h3)
theorem step5n {ops : Array Oper} {o : Oper} {a : Act} {K : Act → World → Prop} {Q : Exit → Act → World → Prop} {E : Prop} (hgd : o.guard = none) (s x : Operand) (ho : o.op = .call { callee := .builtin .append, args := #[s, x], argTypes := #[27, 27] })
    (hs : a.eval s = .slice none 0 0) (hx : a.eval x = .slice A m c) (hl : news.length = m * 1) (hnews : SrcAt w A m news) (h1 : ∀ u ∈ news, u.oneCell' = true) (hm : m ≤ 1000000)
    (h : ∀ A' c' w', w'.ownsRow w.heap.size 5 1 (.slice A' m c') m news → Below w.heap.size w w' → K (a.put o.dst (.slice A' m c')) w') : if Region.wanted o (yielded ops a.tmps) = true then Oper.wp Try.prog o a w K Q else E := by
  have hw : Region.wanted o (yielded ops a.tmps) = true := by simp [Region.wanted, hgd]
  rw [if_pos hw]
  refine wp_app Try.info5 Try.underlying27 rfl (by decide) s x ho hs hx (World.ownsRow_nil w w.heap.size 5 1) hl hnews h1 (by simp only [maxLen]; omega) (by omega) (Nat.le_refl _) fun A' c' w' h2 h3 => ?_
  simp only [Nat.zero_add, List.nil_append] at h2 ⊢
  exact h A' c' w' h2 (grown_none h3)
end

/-- What calls of the reference say. -/
def NetB (w : World) (fs : List Fl) (ok : Bool) (e : Ending) (w' : World) : Prop := ∃ v, e = .returned (.tuple #[.agg #[v], .bool ok]) ∧ NetAt w' v fs ∧ Below w.heap.size w w'
end Go.Proofs.Ytiognapakadggaa
