import Derived.Test.YtafdddakkenlaaaWyb
namespace Go.Proofs.Ytafdddakkenlaaa
open Go.RowKit Go.Sort Go.Shelf
attribute [local go_sem ↓] field26_0 field26_1

/-- A function's contract from its body, where the body holds a range over a function: the walk is the plain one. -/
theorem calls_marks {f : FuncId} {fn : Func} {c : Code} {args : Array Value} {w : World} {R : Ending → World → Prop} (hf : Try.prog.funcs[f]? = some fn) (hb : fn.body = some c)
    (h : c.wp Try.prog (bodyPostM Fence.wide 6 Try.prog fn R) { tmps := args ++ Array.replicate (fn.ntmps - args.size) undef, defers := [] } w) : Calls Try.prog f args w R :=
  (callsIn_wide (n := 6)).1 (callsIn_of_wp_marks hf hb trivial (wpIn_wide.2 h) rfl)

theorem appendIn_lies {F : Fence} {n : Nat} {P : Program} (w : World) {ops : Array Oper} {rest : List Oper} {o : Oper} {a : Act} {Q : Exit → Act → World → Prop}
    (hg : o.guard = none) (s x : Operand) (t : TypeId) (hop : o.op = Op.call { callee := Callee.builtin Builtin.append, args := #[s, x], argTypes := #[t, t] })
    (base : Nat) (e : TypeId) (i : TypeInfo) (z : Value) (size bytes : Nat) (h1 : P.underlying t = some (.slice e)) (h2 : P.info? e = some i) (h3 : i.zero = some z) (h4 : i.size = size) (h5 : i.bytes = bytes) (h6 : z.cells.size = size) (h7 : 0 < size)
    (v : Value) (k : Nat) (xs : List Value) (hs : a.eval s = v) (hown : w.ownsRow base e size v k xs) (ad : Addr) (m c : Nat) (news : List Value) (hx : a.eval x = .slice (some ad) m c) (hn : news.length = m * size)
    (hc : ∀ j u, news[j]? = some u → w.cell? (ad.add j) = some u) (h1c : ∀ u ∈ news, u.oneCell' = true) (hm : 0 < m) (b1 : k + m ≤ maxLen) (b2 : (k + m) * bytes ≤ 140737488355328) (b3 : base ≤ w.heap.size)
    (hK : ∀ g cap w', w'.ownsRow base e size (.slice (some ⟨g, 0, none⟩) (k + m) cap) (k + m) (xs ++ news) → w.grownBy w' v.ownBlock → (v.ownBlock = some g ∨ g = w.heap.size) → g < w'.heap.size → wpListIn F n P ops Q rest (a.put o.dst (.slice (some ⟨g, 0, none⟩) (k + m) cap)) w') :
    wpListIn F n P ops Q (o :: rest) a w := by
  refine wpListIn_plain hg fun K hK' => ?_
  obtain ⟨g, cap, w', hrun, r1, r2, r3, r4⟩ := run_append_lies (P := P) w t o.type base e i z size bytes h1 h2 h3 h4 h5 h6 h7 v k xs hown ad m c news hn hc h1c hm b1 b2 b3 _ rfl
  unfold Oper.wpIn
  refine ⟨?_, ?_⟩
  · simp [Oper.about, hop, resolve, Target.leads, Sem.run_pure]
  · rw [Oper.semAt_plain F _ _ (by rw [hop]; intro c hc'; cases hc')]
    simp [execOp, hop, resolve, invoke, builtin, hs, hx, hrun, Result.andThen]
    exact hK' _ _ (hK g cap w' r1 r2 r3 r4)

/-- The loop's own blocks: the box of its slice, and the slice's block. -/
def mineL (V : Nat) (W : World) (j : Nat) : Prop := j = V ∨ ∃ n c, W.cell? ⟨V, 0, none⟩ = some (.slice (some ⟨j, 0, none⟩) n c)
theorem kp_putObj {V : Nat} {W : World} {l : Nat} {o o' : Obj} (hV : V < l) (h : W.heap[l]? = some o) (ho : o.isCells = false) : Kp (mineL V) W (W.putObj l o') := by
  have hsz : (W.putObj l o').heap.size = W.heap.size := by simp
  have hcell : (W.putObj l o').cell? ⟨V, 0, none⟩ = W.cell? ⟨V, 0, none⟩ := by
    unfold World.cell?; rw [World.putObj_heap_other (by show V ≠ l; omega)]
  refine ⟨by omega, fun j c ty f hj _ => ?_, fun j hj => ?_⟩
  · rw [World.putObj_heap_other (fun e => ?_), hj]
    subst e; rw [h] at hj; cases hj; cases ho
  · rcases hj with h1 | ⟨n, c, h1⟩
    · exact .inl (.inl h1)
    · exact .inl (.inr ⟨n, c, by rw [← hcell]; exact h1⟩)
end Go.Proofs.Ytafdddakkenlaaa
