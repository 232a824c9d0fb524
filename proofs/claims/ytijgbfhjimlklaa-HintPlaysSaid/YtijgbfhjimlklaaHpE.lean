/- The reference's hints: Add; an append of which it is told where the new slice lies, and with which capacity. -/
import Derived.Test.YtijgbfhjimlklaaHpD
namespace Go.Proofs.Ytijgbfhjimlklaa
open Go.RowKit Go.Maps

theorem own_pre {w : World} {base e size n n0 : Nat} {a : Option Addr} {c : Nat} {xs ys : List Value} (h : w.ownsRow base e size (.slice a n c) n (xs ++ ys)) (hn : n0 ≤ n) (hx : xs.length = n0 * size) (ha : 0 < n) : w.ownsRow base e size (.slice a n0 c) n0 xs := by
  rcases h.2 with ⟨h2, h3⟩ | ⟨g, cap, cur, hv, hb, hh, hc, hm, hs, hr⟩
  · omega
  · obtain ⟨e1, _, e3⟩ := Value.slice.inj hv
    subst e1 e3
    refine ⟨hx, .inr ⟨g, c, cur, rfl, hb, hh, by omega, hm, hs, ?_⟩⟩
    have h1 : (cur.toList.take (n * size)).take (n0 * size) = xs := by rw [hr, ← hx, List.take_left]
    rwa [List.take_take, Nat.min_eq_left (Nat.mul_le_mul_right _ hn)] at h1
/-- Append to a row of the call's own: in a new block (and all else stays), or in the old one, with the old capacity. -/
theorem run_append_arm {P : Program} {ty : TypeId} (w : World) (base : Nat) (t e : TypeId) (i : TypeInfo) (z : Value) (size bytes : Nat) (ht : P.underlying t = some (.slice e)) (hi : P.info? e = some i) (hz : i.zero = some z)
    (hsize : i.size = size) (hby : i.bytes = bytes) (hzs : z.cells.size = size) (hsz : 0 < size)
    (v : Value) (n : Nat) (xs : List Value) (hown : w.ownsRow base e size v n xs)
    (a : Addr) (m c : Nat) (news : List Value) (hl : news.length = m * size) (hnews : ∀ j u, news[j]? = some u → w.cell? (a.add j) = some u) (h1 : ∀ u ∈ news, u.oneCell' = true)
    (h63 : n + m ≤ maxLen) (hbytes : (n + m) * bytes ≤ 140737488355328) (hbase : base ≤ w.heap.size) (hm0 : 0 < m) :
    ∃ v' w', (Builtin.append_ #[t, t] ty #[v, .slice (some a) m c]).run P w = .ok v' w' ∧ w'.ownsRow base e size v' (n + m) (xs ++ news) ∧
      ((v'.ownBlock = some w.heap.size ∧ w.grownBy w' none) ∨ (∃ g cap, v = .slice (some ⟨g, 0, none⟩) n cap ∧ v' = .slice (some ⟨g, 0, none⟩) (n + m) cap ∧ w.grownBy w' (some g))) := by
  rcases hown.2 with ⟨rfl, rfl⟩ | ⟨g, cap, cur, rfl, hbg, hg, hnc, hcm, hcs, htake⟩
  · obtain ⟨v', w', hr, h2, h3, h4, h5⟩ := run_append_own_at (P := P) (ty := ty) w base t e i z size bytes ht hi hz hsize hby hzs hsz _ 0 xs hown a m c news hl hnews h1 h63 hbytes hbase
    refine ⟨v', w', hr, h2, .inl ⟨?_, h3⟩⟩
    rcases h5 with h5 | h5
    · exfalso
      rcases h2.2 with ⟨_, h0⟩ | ⟨g, cap, cur, hv, _⟩
      · omega
      · rw [hv] at h5; cases h5
    · exact h5
  · by_cases hroom : n + m ≤ cap
    · obtain ⟨w', hr, h2, h3⟩ := run_append_fits (P := P) (ty := ty) w base t e i size ht hi hsize g n cap xs hown a m c news hl hnews h1 hroom
      exact ⟨_, w', hr, h2, .inr ⟨g, cap, rfl, rfl, h3⟩⟩
    · subst hsize
      subst hby
      have hlen : (xs ++ news).length = (n + m) * i.size := by rw [List.length_append, hown.1, hl, Nat.add_mul]
      have hge := grownCap_ge w (n + m) cap e
      have hcm2 : grownCap w (n + m) cap e ≤ maxLen := grownCap_le_maxLen w (n + m) cap e h63
      have holds : ∀ j u, xs[j]? = some u → w.cell? ((⟨g, 0, none⟩ : Addr).add j) = some u := hown.cells (g := g) rfl
      have hr := run_append_grow (P := P) w t ty e i z ht hi hz ⟨g, 0, none⟩ n cap xs hown.1 holds a m c news hl hnews (by omega) (by simp only [maxLen] at h63; omega) (growslice_fits (by omega) hbytes)
      refine ⟨_, _, hr, ⟨hlen, .inr ⟨w.heap.size, _, _, rfl, hbase, heap_alloc_new w.drew _, hge, hcm2, ?_, ?_⟩⟩, .inl ⟨rfl, ⟨rfl, rfl, rfl, by simp, fun k hk _ => heap_alloc_old w.drew _ hk⟩⟩⟩
      · simp only [Array.size_append, List.size_toArray, size_zeroCells, hzs, hown.1, hl, ← Nat.add_mul]
        congr 1
        omega
      · simp only [Array.toList_append, List.append_assoc]
        rw [← List.append_assoc, ← hlen]
        exact List.take_left
theorem rh_fill (q : Hk) (cells : Array Value) (hc : cells.size = 7) : Instr.fill (fun i => some (i * 7, 7)) cells [(0, .agg (hkC q).toArray)] = some (hkC q).toArray := by
  have h := Great.fill_whole (s := 7) (by decide) [.agg (hkC q).toArray] cells (by intro v hv; rw [List.mem_singleton.1 hv]; rfl) (by simp [hc])
  simpa [Value.cells, List.zipIdx] using h
theorem wp_lit_rh {o : Oper} {a : Act} {w : World} {K : Act → World → Prop} {Q : Exit → Act → World → Prop} (x : Operand) (ho : o.op = .buildSlice 56 1 #[(0, x)])
    (q : Hk) (hx : a.eval x = .agg (hkC q).toArray)
    (h : ∀ w1, w.alloc (.cells (hkC q).toArray 75) = w1 → K (a.put o.dst (.slice (some ⟨w.heap.size, 0, none⟩) 1 1)) w1) : o.wp Try.prog a w K Q := by
  obtain ⟨i0, hi, hz0, hz1, hz2⟩ := info_parts infoRh
  refine wp_buildSlice 56 75 1 #[(0, x)] ho (hkC q).toArray i0 _ Try.underlying56 hi hz0 (by rw [hz1]; decide) (by rw [hz1]; decide) ?_ (h _ rfl)
  rw [hz1]
  have e : (Array.map (fun x : Nat × Operand => match x with | (i, x) => (i, a.eval x)) #[(0, x)]).toList = [(0, .agg (hkC q).toArray)] := by simp [hx]
  refine (congrArg _ e).trans (rh_fill q _ ?_)
  simp
theorem wp_append_rh {o : Oper} {a : Act} {w : World} {K : Act → World → Prop} {Q : Exit → Act → World → Prop} (s x : Operand)
    (ho : o.op = .call { callee := .builtin .append, args := #[s, x], argTypes := #[56, 56] }) (base : Nat) (v : Value) (L : List Hk) (hs : a.eval s = v) (hown : w.ownsRow base 75 7 v L.length (encH L))
    (y : Hk) (A : Nat) (hx : a.eval x = .slice (some ⟨A, 0, none⟩) 1 1) (hA : w.heap[A]? = some (.cells (hkC y).toArray 75 (0, 0))) (hn : L.length ≤ 1000) (hbase : base ≤ w.heap.size)
    (h : ∀ a' c' w', w'.ownsRow base 75 7 (.slice a' (L.length + 1) c') (L ++ [y]).length (encH (L ++ [y])) →
      (((Value.slice a' (L.length + 1) c').ownBlock = some w.heap.size ∧ w.grownBy w' none) ∨ (∃ g cap, v = .slice (some ⟨g, 0, none⟩) L.length cap ∧ (Value.slice a' (L.length + 1) c') = .slice (some ⟨g, 0, none⟩) (L.length + 1) cap ∧ w.grownBy w' (some g))) → K (a.put o.dst (.slice a' (L.length + 1) c')) w') : o.wp Try.prog a w K Q := by
  obtain ⟨i0, hi, hz0, hz1, hz2⟩ := info_parts infoRh
  obtain ⟨v', w', hr, h2, h3⟩ := run_append_arm (P := Try.prog) (ty := o.type) w base 56 75 i0 _ 7 64 Try.underlying56 hi hz0 hz1 hz2 rfl (by decide) v L.length (encH L) hown ⟨A, 0, none⟩ 1 1 (hkC y) rfl (fun j u hu => by rw [Addr.add_mid, Nat.zero_add, cell_of_row w A j _ _ _ hA]; simpa using hu) (hkC_one y) (by unfold maxLen; omega) (by omega) hbase (by decide)
  obtain ⟨a', c', rfl⟩ : ∃ a' c', v' = .slice a' (L.length + 1) c' := by
    rcases h2.2 with ⟨rfl, h0⟩ | ⟨g, cap, cur, rfl, _⟩
    · omega
    · exact ⟨_, _, rfl⟩
  unfold Oper.wp execOp
  simp only [ho, resolve, invoke, builtin, Sem.run_bind, Sem.run_pure, Result.andThen_ok, List.map_toArray, List.map_cons, List.map_nil, hs, hx, hr]
  exact h a' c' w' (own_cast h2 (by simp) (by simp [encH])) h3
/-- The list that is put together (lv) behind the object's own one (v). -/
structure AddR (B w : World) (r N : Nat) (m : Int) (v lv : Value) (L X : List Hk) : Prop where
  obj : RfAt w r N m v L
  own : w.ownsRow N 75 7 lv (L ++ X).length (encH (L ++ X))
  at_ : ∀ k, lv.ownBlock = some k → v.ownBlock = some k ∨ B.heap.size ≤ k
  same : lv.ownBlock = v.ownBlock → ∃ a c, v = .slice a L.length c ∧ lv = .slice a (L ++ X).length c
  bt : Bt (fun k => v.ownBlock = some k) B w
  rB : r < B.heap.size
theorem AddR.start {w : World} {r N : Nat} {m : Int} {v : Value} {L : List Hk} (h : RfAt w r N m v L) : AddR w w r N m v v L [] := by
  obtain ⟨a, c, rfl⟩ := own_slice h.row
  exact ⟨h, by rw [List.append_nil]; exact h.row, fun k hk => .inl hk, fun _ => ⟨a, c, rfl, by rw [List.append_nil]⟩, Bt.rfl', blk_lt h.blk⟩
section
variable {B w w' : World} {r N : Nat} {m : Int} {v lv : Value} {L X : List Hk}
theorem AddR.gr (h : AddR B w r N m v lv L X) (hg : Gr w w') : AddR B w' r N m v lv L X :=
  ⟨h.obj.gr hg, own_gr h.own hg, h.at_, h.same, h.bt.tr (.of hg), h.rB⟩
theorem AddR.pr (h : AddR B w r N m v lv L X) : lv.ownBlock ≠ some r := fun z => by
  rcases h.at_ r z with h1 | h1
  · exact h.obj.px h1
  · have := h.rB; omega
theorem AddR.snoc (h : AddR B w r N m v lv L X) {y : Hk} {v' : Value} (hown : w'.ownsRow N 75 7 v' (L ++ X ++ [y]).length (encH (L ++ X ++ [y])))
    (harm : (v'.ownBlock = some w.heap.size ∧ w.grownBy w' none) ∨ (∃ g cap, lv = .slice (some ⟨g, 0, none⟩) (L ++ X).length cap ∧ v' = .slice (some ⟨g, 0, none⟩) ((L ++ X).length + 1) cap ∧ w.grownBy w' (some g))) :
    AddR B w' r N m v v' L (X ++ [y]) := by
  rw [List.append_assoc] at hown
  rcases harm with ⟨hat, hg⟩ | ⟨g, cap, rfl, rfl, hg⟩
  · have hG : Gr w w' := ⟨hg.os, hg.tape, hg.output, hg.size, fun k hk => hg.block k hk (by simp)⟩
    refine ⟨h.obj.gr hG, hown, fun k hk => .inr ?_, fun e => ?_, h.bt.tr (.of hG), h.rB⟩
    · rw [hat] at hk; injection hk with hk; rw [← hk]; exact h.bt.size
    · rw [hat] at e
      have := (h.obj.row.lt _ e.symm).2
      omega
  · have hbt : Bt (fun k => k = g) w w' := Bt.row hg rfl
    have hgr : g ≠ r := fun e => h.pr (by rw [e]; rfl)
    by_cases hs : v.ownBlock = some g
    · obtain ⟨a, c, rfl, e2⟩ := h.same hs.symm
      obtain ⟨e3, _, e4⟩ := Value.slice.inj e2
      subst e3 e4
      have hpre : w'.ownsRow N 75 7 (.slice (some ⟨g, 0, none⟩) L.length cap) L.length (encH L) := by
        have h1 := hown
        rw [show encH (L ++ (X ++ [y])) = encH L ++ encH (X ++ [y]) from List.flatMap_append .., show (L ++ (X ++ [y])).length = (L ++ X).length + 1 by simp; omega] at h1
        exact own_pre h1 (by simp; omega) (flat_len (enc := fun x : Hk => hkC x) (k := 7) (fun _ => rfl) L) (by omega)
      refine ⟨⟨(hbt.block r (blk_lt h.obj.blk) (fun e => hgr e.symm)).trans h.obj.blk, hpre, h.obj.px, Nat.le_trans h.obj.pN hbt.size⟩, hown, fun k hk => .inl hk, fun _ => ⟨_, _, rfl, by simp; omega⟩, h.bt.tr (hbt.mono fun k _ e => by rw [e]; rfl), h.rB⟩
    · have hB : B.heap.size ≤ g := (h.at_ g rfl).resolve_left hs
      refine ⟨h.obj.bt hbt (fun e => hgr e.symm) (fun k hk e => hs (by rw [← e]; exact hk)), hown, fun k hk => .inr (by injection hk with hk; rw [← hk]; exact hB), fun e => absurd e.symm hs, ?_, h.rB⟩
      exact ⟨hg.os.trans h.bt.os, hg.tape.trans h.bt.tape, hg.output.trans h.bt.output, Nat.le_trans h.bt.size hg.size, fun k hk hx => (hg.block k (Nat.lt_of_lt_of_le hk h.bt.size) (fun e => by injection e with e; omega)).trans (h.bt.block k hk hx)⟩
end
/-- What is new of the first i nodes. -/
def moreK (L : List Hk) (p : Pt) (ns : List Int) (i : Nat) : List Hk := (((nodesOf ns).take i).map fun k => (p, k)).filter fun x => decide (x ∉ L)
theorem moreK_all (L : List Hk) (p : Pt) (ns : List Int) : moreK L p ns (nodesOf ns).length = moreH L p ns := by unfold moreK moreH moreT; rw [List.take_length]; rfl
theorem moreK_len (L : List Hk) (p : Pt) (ns : List Int) (i : Nat) : (moreK L p ns i).length ≤ 16 := by
  unfold moreK
  refine Nat.le_trans (List.length_filter_le _ _) ?_
  rw [List.length_map, List.length_take]
  exact Nat.le_trans (Nat.min_le_right _ _) (nodesOf_len ns)
theorem moreK_take {L : List Hk} {p : Pt} {ns : List Int} {i : Nat} (h : i < (nodesOf ns).length) : ((p, (nodesOf ns)[i]) ∈ L → moreK L p ns (i + 1) = moreK L p ns i) ∧ ((p, (nodesOf ns)[i]) ∉ L → moreK L p ns (i + 1) = moreK L p ns i ++ [(p, (nodesOf ns)[i])]) := by
  unfold moreK
  rw [List.take_succ_eq_append_getElem h, List.map_append, List.filter_append]
  constructor <;> intro hl <;> simp [-List.take_append_getElem, hl]
def RAddPost (w : World) (r N : Nat) (m : Int) (v : Value) (L : List Hk) (p : Pt) (ns : List Int) (e : Ending) (w' : World) : Prop :=
  e = .returned (.bool (decide (addOk m L p ns))) ∧ ∃ v', RfAt w' r N m v' (if addOk m L p ns then L ++ moreH L p ns else L) ∧ Bt (fun k => k = r ∨ v.ownBlock = some k) w w'
theorem RAddPost.no {w w' : World} {r N : Nat} {m : Int} {v : Value} {L : List Hk} {p : Pt} {ns : List Int} (h : ¬ addOk m L p ns) (hr : RfAt w' r N m v L) (hb : Bt (fun k => k = r ∨ v.ownBlock = some k) w w') : RAddPost w r N m v L p ns (.returned (.bool false)) w' :=
  ⟨by rw [decide_eq_false h], v, by rw [if_neg h]; exact hr, hb⟩
theorem RAddPost.yes {w w' : World} {r N : Nat} {m : Int} {v v' : Value} {L : List Hk} {p : Pt} {ns : List Int} (h : addOk m L p ns) (hr : RfAt w' r N m v' (L ++ moreH L p ns)) (hb : Bt (fun k => k = r ∨ v.ownBlock = some k) w w') : RAddPost w r N m v L p ns (.returned (.bool true)) w' :=
  ⟨by rw [decide_eq_true h], v', by rw [if_pos h]; exact hr, hb⟩
end Go.Proofs.Ytijgbfhjimlklaa
