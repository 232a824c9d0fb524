/- One element appended to a row of the call's own; maps looked up and counted in regions that draw. No program in sight. -/
import Derived.Test.YtpnpnjfflblkpaaGn
import Derived.Maps.AppendAt
namespace Go.Proofs.Ytpnpnjfflblkpaa
open Go.RowKit Go.Maps

theorem flat_len {α : Type} {enc : α → List Value} {k : Nat} (hk : ∀ x, (enc x).length = k) (l : List α) : (l.flatMap enc).length = l.length * k := by
  induction l with
  | nil => simp
  | cons x r ih => rw [List.flatMap_cons, List.length_append, ih, hk, List.length_cons, Nat.add_mul]; omega
theorem wpList_snoc {P : Program} {α : Type} (enc : α → List Value) (k bytes : Nat) (hk : ∀ x, (enc x).length = k) (hk0 : 0 < k) (hby0 : bytes ≤ 1000) (hone : ∀ x, ∀ u ∈ enc x, u.oneCell' = true)
    {w : World} {ops : Array Oper} {rest : List Oper} {o : Oper} {a : Act} {Q : Exit → Act → World → Prop} (hgd : o.guard = none) (s x : Operand) (t : TypeId)
    (ho : o.op = .call { callee := .builtin .append, args := #[s, x], argTypes := #[t, t] }) (base : Nat) (e : TypeId) (z : Value) (ht : P.underlying t = some (.slice e))
    (hinfo : (P.info? e).map (fun i => (i.zero, i.size, i.bytes)) = some (some z, k, bytes)) (hzs : z.cells.size = k)
    (v : Value) (L : List α) (hs : a.eval s = v) (hown : w.ownsRow base e k v L.length (L.flatMap enc)) (y : α) (A : Nat) (hx : a.eval x = .slice (some ⟨A, 0, none⟩) 1 1)
    (hA : w.heap[A]? = some (.cells (enc y).toArray e (0, 0))) (hL : L.length ≤ 1000000) (hbase : base ≤ w.heap.size)
    (h : ∀ a' c' w', w'.ownsRow base e k (.slice a' (L.length + 1) c') (L ++ [y]).length ((L ++ [y]).flatMap enc) → w.grownBy w' v.ownBlock → ((Value.slice a' (L.length + 1) c').ownBlock = v.ownBlock ∨ (Value.slice a' (L.length + 1) c').ownBlock = some w.heap.size) → wpList P ops Q rest (a.put o.dst (.slice a' (L.length + 1) c')) w') :
    wpList P ops Q (o :: rest) a w := by
  obtain ⟨i0, hi, hz0, hz1, hz2⟩ := info_parts hinfo
  refine wpList_append_own_at _ hgd s x t ho base e i0 z k bytes ht hi hz0 hz1 hz2 hzs hk0 v L.length (L.flatMap enc) hs hown ⟨A, 0, none⟩ 1 1 (enc y) hx (by rw [hk]; omega)
    (fun j u hu => by rw [Addr.add_mid, Nat.zero_add, cell_of_row w A j _ _ _ hA]; simpa using hu) (hone y) (by unfold maxLen; omega) (by have : (L.length + 1) * bytes ≤ (L.length + 1) * 1000 := Nat.mul_le_mul_left _ hby0; omega) hbase ?_
  intro v' w' h2 h3 _ h5
  obtain ⟨a', c', rfl⟩ : ∃ a' c', v' = .slice a' (L.length + 1) c' := by
    rcases h2.2 with ⟨rfl, h0⟩ | ⟨g, cap, cur, rfl, _⟩
    · omega
    · exact ⟨_, _, rfl⟩
  exact h a' c' w' (own_cast h2 (by simp) (by simp)) h3 h5
theorem exec_len_map {P : Program} {o : Oper} {a : Act} {w : World} (m : Operand) (t : TypeId) (ho : o.op = Op.call { callee := Callee.builtin Builtin.len, args := #[m], argTypes := #[t] }) (mb : Option Nat) (hm : a.eval m = .map mb) (n : Nat)
    (hl : ∀ ty, (Builtin.len_ #[t] ty #[.map mb]).run P w = .ok (.int .i64 n) w) : (execOp a.eval o).run P w = .ok (.value (.int .i64 n)) w := by
  simp [execOp, ho, resolve, invoke, builtin, hm, hl o.type, Result.andThen]
end Go.Proofs.Ytpnpnjfflblkpaa
