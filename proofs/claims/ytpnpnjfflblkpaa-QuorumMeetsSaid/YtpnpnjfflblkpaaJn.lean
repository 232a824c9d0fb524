/- A readable row appended to a row of the call's own (append(x, y...)); a row cut ahead (x[l:]). No program in sight. -/
import Derived.Test.YtpnpnjfflblkpaaAp
namespace Go.Proofs.Ytpnpnjfflblkpaa
open Go.RowKit Go.Maps

theorem run_append_none {P : Program} {w : World} {ty : TypeId} (base : Nat) (t e : TypeId) (i : TypeInfo) (size : Nat) (ht : P.underlying t = some (.slice e)) (hi : P.info? e = some i)
    (v : Value) (n c : Nat) (xs : List Value) (hown : w.ownsRow base e size v n xs) :
    (Builtin.append_ #[t, t] ty #[v, .slice none 0 c]).run P w = .ok v w := by
  rcases hown.2 with ⟨rfl, rfl⟩ | ⟨g, cap, cur, rfl, _, _, hnc, _⟩
  · simp [Builtin.append_, run_underlying ht, sizeOf, typeInfo, hi, Builtin.lenOf, Builtin.firstCells]
  · simp [Builtin.append_, run_underlying ht, sizeOf, typeInfo, hi, Builtin.lenOf, Builtin.firstCells, hnc, storeCells]
theorem wpList_join {P : Program} {α : Type} (enc : α → List Value) (k bytes : Nat) (hk : ∀ x, (enc x).length = k) (hk0 : 0 < k) (hby0 : bytes ≤ 1000) (hone : ∀ x, ∀ u ∈ enc x, u.oneCell' = true)
    {w : World} {ops : Array Oper} {rest : List Oper} {o : Oper} {a : Act} {Q : Exit → Act → World → Prop} (hgd : o.guard = none) (s x : Operand) (t : TypeId)
    (ho : o.op = .call { callee := .builtin .append, args := #[s, x], argTypes := #[t, t] }) (base : Nat) (e : TypeId) (z : Value) (ht : P.underlying t = some (.slice e))
    (hinfo : (P.info? e).map (fun i => (i.zero, i.size, i.bytes)) = some (some z, k, bytes)) (hzs : z.cells.size = k)
    (v : Value) (L : List α) (hs : a.eval s = v) (hown : w.ownsRow base e k v L.length (L.flatMap enc)) (R : List α) (xv : Value) (hx : a.eval x = xv)
    (hR : rdRow w k xv R.length (R.flatMap enc)) (hL : L.length ≤ 1000000) (hRl : R.length ≤ 1000000) (hbase : base ≤ w.heap.size)
    (h : ∀ a' c' w', w'.ownsRow base e k (.slice a' (L ++ R).length c') (L ++ R).length ((L ++ R).flatMap enc) → w.grownBy w' v.ownBlock → ((Value.slice a' (L ++ R).length c').ownBlock = v.ownBlock ∨ (Value.slice a' (L ++ R).length c').ownBlock = some w.heap.size) → wpList P ops Q rest (a.put o.dst (.slice a' (L ++ R).length c')) w') :
    wpList P ops Q (o :: rest) a w := by
  obtain ⟨i0, hi, hz0, hz1, hz2⟩ := info_parts hinfo
  have own_val : ∀ {W : World} {v' : Value}, W.ownsRow base e k v' (L ++ R).length ((L ++ R).flatMap enc) → ∃ a' c', v' = .slice a' (L ++ R).length c' := fun {W v'} h2 => by
    rcases h2.2 with ⟨rfl, h0⟩ | ⟨g, cap, cur, rfl, _⟩
    · exact ⟨none, 0, by rw [h0]⟩
    · exact ⟨_, _, rfl⟩
  obtain ⟨hRx, ad, c, rfl, hc, hcells⟩ := hR
  cases ad with
  | none =>
    have hR0 : R.length = 0 := by
      rcases Nat.eq_zero_or_pos R.length with h0 | h0
      · exact h0
      · obtain ⟨b, o, e1, _⟩ := hcells h0; cases e1
    obtain rfl : R = [] := List.eq_nil_of_length_eq_zero hR0
    have hown' : w.ownsRow base e k v (L ++ []).length ((L ++ []).flatMap enc) := by rw [List.append_nil]; exact hown
    obtain ⟨a', c', rfl⟩ := own_val hown'
    refine wpList_plain hgd fun K hK => ?_
    unfold Oper.wp execOp
    have hr := run_append_none (P := P) (w := w) (ty := o.type) base t e i0 k ht hi _ _ c _ hown
    simp only [ho, resolve, invoke, builtin, Sem.run_bind, Sem.run_pure, Result.andThen_ok, List.map_toArray, List.map_cons, List.map_nil, hs, hx, List.length_nil, hr]
    exact hK _ _ (h a' c' w hown' ⟨rfl, rfl, rfl, Nat.le_refl _, fun _ _ _ => rfl⟩ (.inl rfl))
  | some ad =>
    refine wpList_append_own_at _ hgd s x t ho base e i0 z k bytes ht hi hz0 hz1 hz2 hzs hk0 v L.length (L.flatMap enc) hs hown ad R.length c (R.flatMap enc) hx (flat_len hk R)
      (fun j u hu => by
        have h0 : 0 < R.length := by
          rcases Nat.eq_zero_or_pos R.length with h0 | h0
          · rw [List.eq_nil_of_length_eq_zero h0] at hu; cases hu
          · exact h0
        obtain ⟨b, o, e1, h3⟩ := hcells h0
        injection e1 with e1
        subst e1
        rw [Addr.add_mid]
        exact h3 j u hu) (fun u hu => by obtain ⟨y, _, hy⟩ := List.mem_flatMap.1 hu; exact hone y u hy) (by unfold maxLen; omega) (by have : (L.length + R.length) * bytes ≤ (L.length + R.length) * 1000 := Nat.mul_le_mul_left _ hby0; omega) hbase ?_
    intro v' w' h2 h3 _ h5
    have h2' : w'.ownsRow base e k v' (L ++ R).length ((L ++ R).flatMap enc) := own_cast h2 (by simp) (by simp)
    obtain ⟨a', c', rfl⟩ := own_val h2'
    exact h a' c' w' h2' h3 h5
theorem flat_drop {α : Type} {enc : α → List Value} {k : Nat} (hk : ∀ x, (enc x).length = k) : ∀ (l : List α) (m : Nat), (l.drop m).flatMap enc = (l.flatMap enc).drop (m * k)
  | [], m => by simp
  | x :: r, 0 => by simp
  | x :: r, m + 1 => by
    rw [List.drop_succ_cons, List.flatMap_cons, flat_drop hk r m, List.drop_append, (List.drop_eq_nil_iff (l := enc x)).2 (by rw [hk, Nat.add_mul]; omega), hk, Nat.add_mul, List.nil_append]
    congr 1
    omega
theorem flat_take {α : Type} {enc : α → List Value} {k : Nat} (hk : ∀ x, (enc x).length = k) : ∀ (l : List α) (m : Nat), (l.take m).flatMap enc = (l.flatMap enc).take (m * k)
  | [], m => by simp
  | x :: r, 0 => by simp
  | x :: r, m + 1 => by
    rw [List.take_succ_cons, List.flatMap_cons, List.flatMap_cons, flat_take hk r m, List.take_append, List.take_of_length_le (l := enc x) (by rw [hk, Nat.add_mul]; omega), hk, Nat.add_mul]
    congr 2
    omega
/-- x[:m], as it is read. -/
theorem rd_cut {w : World} {α : Type} {enc : α → List Value} {k : Nat} (hk : ∀ x, (enc x).length = k) {L : List α} {a : Option Addr} {n c : Nat} (h : rdRow w k (.slice a n c) L.length (L.flatMap enc)) {m : Nat} (hm : m ≤ L.length) : rdRow w k (.slice a m c) (L.take m).length ((L.take m).flatMap enc) := by
  obtain ⟨h1, a', c', e, hc, h2⟩ := h
  obtain ⟨rfl, rfl, rfl⟩ := Value.slice.inj e
  have el : (L.take m).length = m := by rw [List.length_take]; omega
  refine ⟨flat_len hk _, a, c, by rw [el], by omega, fun h0 => ?_⟩
  obtain ⟨b, o, rfl, h3⟩ := h2 (by omega)
  refine ⟨b, o, rfl, fun j u hu => h3 j u ?_⟩
  rw [flat_take hk, List.getElem?_take] at hu
  split at hu
  · exact hu
  · cases hu
/-- x[l:]: a row that reads as what is behind. -/
theorem wpList_behind {P : Program} {α : Type} (enc : α → List Value) (k : Nat) (hk : ∀ x, (enc x).length = k)
    {w : World} {ops : Array Oper} {rest : List Oper} {o : Oper} {a : Act} {Q : Exit → Act → World → Prop} (hgd : o.guard = none) (t e : TypeId) (s x : Operand) (ho : o.op = .slice t s (some x) none none)
    (ht : P.underlying t = some (.slice e)) (hsz : ∀ w, (sizeOf e).run P w = .ok k w) (L : List α) (a0 : Option Addr) (n c l : Nat) (hs : a.eval s = .slice a0 n c) (hx : a.eval x = .int .i64 (l : Int))
    (hR : rdRow w k (.slice a0 n c) L.length (L.flatMap enc)) (hl : l ≤ L.length) (D : List α) (hD : L.drop l = D)
    (h : ∀ a' c', rdRow w k (.slice a' D.length c') D.length (D.flatMap enc) → (∀ ad, a' = some ad → ∃ ad0, a0 = some ad0 ∧ ad.block = ad0.block) → wpList P ops Q rest (a.put o.dst (.slice a' D.length c')) w) :
    wpList P ops Q (o :: rest) a w := by
  subst hD
  obtain ⟨h1, a', c', e1, hc, h2⟩ := hR
  obtain ⟨rfl, rfl, rfl⟩ := Value.slice.inj e1
  have hel : P.elem t = e := by simp [Program.elem, ht]
  have ht' : P.underlying t = some (.slice (P.elem t)) := by rw [hel]; exact ht
  refine wpList_plain hgd fun K hK => ?_
  unfold Oper.wp execOp
  have hr := run_slice_l (P := P) w t a0 L.length c ht' .i64 (l : Int) (by omega) (by omega)
  rw [hel, hsz, Result.andThen_ok] at hr
  have hr' : (Instr.sliceAt t (.slice a0 L.length c) (some (.int .i64 (l : Int))) none none).run P w = .ok (.slice (if c = l then a0 else a0.map (·.add (l * k))) (L.drop l).length (c - l)) w := by
    rw [run_sliceAt_slice w t _ _ _ _ ht', hr]
    simp [sliced]
  simp only [ho, hs, hx, Option.map_some, Option.map_none, Sem.run_bind, hr', Result.andThen_ok, Sem.run_pure]
  refine hK _ _ (h _ _ ⟨flat_len hk _, _, _, rfl, by rw [List.length_drop]; omega, fun h0 => ?_⟩ (fun ad hd => ?_))
  · rw [List.length_drop] at h0
    obtain ⟨b, o', rfl, h3⟩ := h2 (by omega)
    refine ⟨b, o' + l * k, ?_, fun j u hu => ?_⟩
    · rw [if_neg (by omega)]; simp [Addr.add_mid]
    · rw [flat_drop hk, List.getElem?_drop] at hu
      have := h3 _ _ hu
      rwa [← Nat.add_assoc] at this
  · by_cases hcl : c = l
    · rw [if_pos hcl] at hd; exact ⟨ad, hd, rfl⟩
    · rw [if_neg hcl] at hd
      cases a0 with
      | none => cases hd
      | some ad0 => injection hd with hd; exact ⟨ad0, rfl, by rw [← hd]; dsimp only [Addr.add]; split <;> rfl⟩
/-- Cells that are stored one behind another, in a block that is told whole. -/
theorem heap_setCells (g : Nat) (t : TypeId) : ∀ (vs : List Value) (o : Nat) (cs : Array Value) (w : World), w.heap[g]? = some (.cells cs t (0, 0)) → o + vs.length ≤ cs.size →
    ∃ cs' : Array Value, (w.setCells g o vs).heap[g]? = some (.cells cs' t (0, 0)) ∧ cs'.size = cs.size ∧ cs'.toList = cs.toList.take o ++ vs ++ cs.toList.drop (o + vs.length)
  | [], o, cs, w, h, _ => ⟨cs, h, rfl, by simp⟩
  | v :: r, o, cs, w, h, hs => by
    rw [List.length_cons] at hs
    have h1 := Go.heap_setCell_same w g o cs t v h
    obtain ⟨cs', h2, h3, h4⟩ := heap_setCells g t r (o + 1) _ _ h1 (by simp; omega)
    refine ⟨cs', h2, by rw [h3]; simp, ?_⟩
    rw [h4]
    have hlt : o < cs.toList.length := by simp; omega
    simp only [Array.toList_setIfInBounds, Array.toList_set, Array.set!_eq_setIfInBounds]
    rw [List.take_set, List.drop_set_of_lt (by omega), List.take_succ_eq_append_getElem hlt, List.set_append_right _ _ (by rw [List.length_take]; omega)]
    have e : o - (cs.toList.take o).length = 0 := by rw [List.length_take]; omega
    rw [e, List.set_cons_zero, List.length_cons]
    simp only [List.append_assoc, List.cons_append, List.nil_append]
    congr 4
    omega
theorem setCells_grown (g : Nat) : ∀ (vs : List Value) (o : Nat) (w : World), w.grownBy (w.setCells g o vs) (some g)
  | [], _, _ => ⟨rfl, rfl, rfl, Nat.le_refl _, fun _ _ _ => rfl⟩
  | v :: r, o, w => (grown_set w g o v).trans (setCells_grown g r (o + 1) _)
/-- One element of a row of the call's own is set anew. -/
theorem own_setk {α : Type} {enc : α → List Value} {k : Nat} (hk : ∀ x, (enc x).length = k) {w : World} {base e g c : Nat} {A B : List α} {x : α} (y : α)
    (h : w.ownsRow base e k (.slice (some ⟨g, 0, none⟩) (A ++ [x] ++ B).length c) (A ++ [x] ++ B).length ((A ++ [x] ++ B).flatMap enc)) :
    (w.setCells g (A.length * k) (enc y)).ownsRow base e k (.slice (some ⟨g, 0, none⟩) (A ++ [y] ++ B).length c) (A ++ [y] ++ B).length ((A ++ [y] ++ B).flatMap enc) ∧ w.grownBy (w.setCells g (A.length * k) (enc y)) (some g) ∧ w.there g (A.length * k) k := by
  have hl : (A ++ [y] ++ B).length = (A ++ [x] ++ B).length := by simp
  rcases h.2 with ⟨h2, _⟩ | ⟨g', cap, cur, hv, hb, hg, hn, hm, hs, ht⟩
  · cases h2
  · simp only [Value.slice.injEq, Option.some.injEq, Addr.mk.injEq] at hv
    obtain ⟨⟨rfl, _⟩, _, rfl⟩ := hv
    have hA : (A.flatMap enc).length = A.length * k := flat_len hk A
    have hB : (B.flatMap enc).length = B.length * k := flat_len hk B
    have hlen : (A ++ [x] ++ B).length = A.length + 1 + B.length := by simp; omega
    have hmul : (A ++ [x] ++ B).length * k = A.length * k + k + B.length * k := by rw [hlen, Nat.add_mul, Nat.add_mul, Nat.one_mul]
    have hle : (A ++ [x] ++ B).length * k ≤ cur.size := by rw [hs]; exact Nat.mul_le_mul_right _ hn
    obtain ⟨cs', h1, h2, h3⟩ := heap_setCells g e (enc y) (A.length * k) cur w hg (by rw [hk]; omega)
    have hcur : cur.toList.take (A.length * k) = A.flatMap enc := by
      have : (cur.toList.take ((A ++ [x] ++ B).length * k)).take (A.length * k) = A.flatMap enc := by
        rw [ht, List.flatMap_append, List.flatMap_append, List.append_assoc, ← hA, List.take_left]
      rwa [List.take_take, Nat.min_eq_left (by omega)] at this
    have hdr : (cur.toList.drop (A.length * k + k)).take (B.length * k) = B.flatMap enc := by
      have : (cur.toList.take ((A ++ [x] ++ B).length * k)).drop (A.length * k + k) = B.flatMap enc := by
        rw [ht, List.flatMap_append, List.flatMap_append]
        refine List.drop_left' ?_
        rw [List.length_append, hA, List.flatMap_singleton, hk]
      rw [List.drop_take] at this
      rwa [show (A ++ [x] ++ B).length * k - (A.length * k + k) = B.length * k by omega] at this
    refine ⟨⟨by rw [flat_len hk], .inr ⟨g, c, cs', by rw [hl], hb, h1, by omega, hm, by rw [h2, hs], ?_⟩⟩, ?_, fun j hj => ?_⟩
    · rw [hl, h3, hcur, hk, List.flatMap_append, List.flatMap_append, List.flatMap_singleton, hmul]
      have hX : (A.flatMap enc ++ enc y).length = A.length * k + k := by rw [List.length_append, hA, hk]
      rw [List.take_append, List.take_of_length_le (by rw [hX]; omega), hX, show A.length * k + k + B.length * k - (A.length * k + k) = B.length * k by omega, hdr]
    · exact setCells_grown g (enc y) _ w
    · have hlt : A.length * k + j < cur.size := by omega
      rw [cell_of_row w g (A.length * k + j) cur e (0, 0) hg, frozen_of_row w g (A.length * k + j) _ _ hg]
      exact ⟨by simp [hlt], rfl⟩
end Go.Proofs.Ytpnpnjfflblkpaa
