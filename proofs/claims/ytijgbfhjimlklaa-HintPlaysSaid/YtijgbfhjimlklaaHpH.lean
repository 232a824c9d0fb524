/- HintPlays: what both objects are together. -/
import Derived.Test.YtijgbfhjimlklaaHpE2
import Derived.Test.YtijgbfhjimlklaaHpG
namespace Go.Proofs.Ytijgbfhjimlklaa
open Go.RowKit Go.Maps

theorem nodesTo_lt (l : List Int) (n : Nat) : (nodesTo l n).Pairwise (· < ·) := by
  unfold nodesTo
  refine List.Pairwise.filter _ ?_
  rw [List.pairwise_map]
  exact List.pairwise_lt_range.imp (fun h => by show Int.ofNat _ < Int.ofNat _; exact Int.ofNat_lt.2 h)
theorem srt_nodes {l : List Int} (h : ∀ x ∈ l, 0 ≤ x ∧ x < 16) : srt l = nodesOf l :=
  srt_eq (nodesTo_lt l 16) fun x => by rw [nodesOf_mem]; exact ⟨fun z => ⟨z, h x z⟩, And.left⟩
/-- Each hint is for a node. -/
def InB (L : List Hk) : Prop := ∀ x ∈ L, 0 ≤ x.2 ∧ x.2 < 16
theorem InB.nodes {L : List Hk} (h : InB L) (P : Pt → Bool) : srt (nodesP L P) = nodesOf (nodesP L P) := srt_nodes fun x hx => by
  unfold nodesP at hx
  obtain ⟨y, hy, rfl⟩ := List.mem_map.1 hx
  exact h y (List.mem_filter.1 hy).1
theorem InB.nil : InB [] := fun _ h => by cases h
theorem InB.add {L : List Hk} (h : InB L) (p : Pt) (ns : List Int) : InB (L ++ moreH L p ns) := fun x hx => by
  rcases List.mem_append.1 hx with hx | hx
  · exact h x hx
  · have := moreT_mem hx; exact ⟨this.2.2.1, this.2.2.2.1⟩
theorem InB.ack {L : List Hk} (h : InB L) (node : Int) (ps : List Pt) : InB (ackL L node ps) := fun x hx => h x (List.mem_filter.1 hx).1
theorem InB.drop {L : List Hk} (h : InB L) (t : Int) : InB (dropL L t) := fun x hx => h x (List.mem_filter.1 hx).1
/-- Both objects side by side: the package's with L1, the reference's with L2. -/
structure PlG (w0 w : World) (p b r N : Nat) (m : Int) (v : Value) (L1 L2 : List Hk) : Prop where
  one : OneH w0 w p b m L1
  rf : RfAt w r N m v L2
  pN : p < N
  bN : b < N
  rN : N ≤ r
section
variable {w0 w w' : World} {p b r N : Nat} {m : Int} {v v' : Value} {L1 L2 L' : List Hk}
theorem PlG.vN (h : PlG w0 w p b r N m v L1 L2) {k : Nat} (hk : v.ownBlock = some k) : N ≤ k := (h.rf.row.lt k hk).1
theorem PlG.grow (h : PlG w0 w p b r N m v L1 L2) (hg : Gr w w') : PlG w0 w' p b r N m v L1 L2 := ⟨h.one.grow hg, h.rf.gr hg, h.pN, h.bN, h.rN⟩
theorem PlG.pkg (h : PlG w0 w p b r N m v L1 L2) (ha : HAt w' p (some b) m L') (hb : Bt (fun k => some b = some k) w w') : PlG w0 w' p b r N m v L' L2 :=
  ⟨h.one.turn ha hb, h.rf.bt hb (fun z => by injection z with z; have := h.bN; have := h.rN; omega) (fun k hk z => by injection z with z; have := h.vN hk; have := h.bN; omega), h.pN, h.bN, h.rN⟩
theorem PlG.ref (h : PlG w0 w p b r N m v L1 L2) (hr : RfAt w' r N m v' L') (hb : Bt (fun k => k = r ∨ v.ownBlock = some k) w w') : PlG w0 w' p b r N m v' L1 L' := by
  have hX : ∀ k, (k = r ∨ v.ownBlock = some k) → N ≤ k := fun k hk => hk.elim (fun e => by rw [e]; exact h.rN) h.vN
  refine ⟨⟨h.one.at_.bt hb (fun z => ?_) (fun k hk z => ?_), hb.gr h.one.gr (fun k hk => ?_), h.one.np, h.one.nb⟩, hr, h.pN, h.bN, h.rN⟩
  · have := hX _ z; have := h.pN; omega
  · injection hk with hk; have := hX _ z; have := h.bN; omega
  · have := hX _ hk; have := h.one.np; have := h.pN; omega
end
/-- A call, as it is read. -/
structure OpR where
  k : Int
  n : Int
  p : Pt
  ns : List Int
  d : Value
instance : Inhabited OpR := ⟨⟨0, 0, ⟨⟨#[]⟩, 0, 0, 0, 0, 0⟩, [], .slice none 0 0⟩⟩
def opC (o : OpR) : List Value := [.int .i64 o.k, .int .i64 o.n, .string o.p.s, .int .i64 o.p.t, .int .i64 o.p.v, .int .i64 o.p.c, .int .i64 o.p.st, .int .i64 o.p.q, o.d]
def OpOk (W : World) (o : OpR) : Prop := I64 o.k ∧ I64 o.n ∧ PtI o.p ∧ rdRow W 1 o.d o.ns.length (encI o.ns) ∧ o.ns.length ≤ maxLen
theorem OpOk.gr {w w1 : World} {o : OpR} (h : OpOk w o) (hg : Gr w w1) : OpOk w1 o := ⟨h.1, h.2.1, h.2.2.1, h.2.2.2.1.gr hg, h.2.2.2.2⟩
theorem opC_one (o : OpR) (hd : o.d.oneCell' = true) : (opC o).toArray.all (·.oneCell') = true := by
  simp [opC, hd]; exact ⟨rfl, rfl, rfl, rfl, rfl, rfl, rfl, rfl⟩
theorem opC_len (o : OpR) : (opC o).length = 9 := rfl
theorem info_op : (Try.prog.info? 51).map (·.size) = some 9 := by kernel_rfl
theorem mostH_bd (n : Int) : 0 ≤ mostH n ∧ mostH n ≤ 600 := by
  unfold mostH mn mx
  repeat' split
  all_goals omega
theorem op_pt {w : World} {b i : Nat} {o : OpR} (h : w.rangeAt b i (opC o)) : w.rangeAt b (i + 2) (ptC o.p) := fun j u hu => by
  have hj : j < 6 := (List.getElem?_eq_some_iff.1 hu).1
  rw [Nat.add_assoc]
  refine h (2 + j) u ?_
  match j, hj with
  | 0, _ | 1, _ | 2, _ | 3, _ | 4, _ | 5, _ => exact hu
/-- What holds ahead of each call. -/
def PlI (w0 w : World) (p b r N : Nat) (m : Int) : Prop := ∃ v L, PlG w0 w p b r N m v L L ∧ (L.length : Int) ≤ m ∧ InB L
theorem pt_fill2 (q q2 : Pt) (cells : Array Value) (hc : cells.size = 12) : Instr.fill (fun i => some (i * 6, 6)) cells [(0, .agg (ptC q).toArray), (1, .agg (ptC q2).toArray)] = some (ptC q ++ ptC q2).toArray := by
  have h := Great.fill_whole (s := 6) (by decide) [.agg (ptC q).toArray, .agg (ptC q2).toArray] cells (by intro v hv; simp only [List.mem_cons, List.not_mem_nil, or_false] at hv; rcases hv with rfl | rfl <;> rfl) (by simp [hc])
  simpa [Value.cells, List.zipIdx] using h
theorem wpList_lit_pt2 {ops : Array Oper} {rest : List Oper} {o : Oper} {a : Act} {w : World} {Q : Exit → Act → World → Prop} (hgd : o.guard = none) (x y : Operand) (ho : o.op = .buildSlice 22 2 #[(0, x), (1, y)])
    (q q2 : Pt) (hx : a.eval x = .agg (ptC q).toArray) (hy : a.eval y = .agg (ptC q2).toArray)
    (h : ∀ w1, w.alloc (.cells (ptC q ++ ptC q2).toArray 31) = w1 → wpList Try.prog ops Q rest (a.put o.dst (.slice (some ⟨w.heap.size, 0, none⟩) 2 2)) w1) : wpList Try.prog ops Q (o :: rest) a w := by
  obtain ⟨i0, hi, hz0, hz1, hz2⟩ := info_parts infoPt
  refine wpList_plain hgd fun K hK => ?_
  refine wp_buildSlice 22 31 2 #[(0, x), (1, y)] ho (ptC q ++ ptC q2).toArray i0 _ Try.underlying22 hi hz0 (by rw [hz1]; decide) (by rw [hz1]; decide) ?_ (hK _ _ (h _ rfl))
  rw [hz1]
  have e : (Array.map (fun x : Nat × Operand => match x with | (i, x) => (i, a.eval x)) #[(0, x), (1, y)]).toList = [(0, .agg (ptC q).toArray), (1, .agg (ptC q2).toArray)] := by simp [hx, hy]
  refine (congrArg _ e).trans (pt_fill2 q q2 _ ?_)
  simp
/-- What holds behind each call, with the call and its point as they lie. -/
structure PlC (w0 w : World) (p b r N : Nat) (m : Int) (A9 A8 : Nat) (o : OpR) (q : Pt) : Prop where
  i : PlI w0 w p b r N m
  b9 : w.heap[A9]? = some (.cells (opC o).toArray 51 (0, 0))
  b8 : w.heap[A8]? = some (.cells (ptC q).toArray 31 (0, 0))
section
variable {w0 w w' : World} {p b r N A9 A8 : Nat} {m : Int} {v v' : Value} {L : List Hk} {o : OpR} {q : Pt} {X : Nat → Prop}
theorem PlI.add {x : Pt} {ns : List Int} (h : PlG w0 w p b r N m v (if addOk m L x ns then L ++ moreH L x ns else L) (if addOk m L x ns then L ++ moreH L x ns else L)) (hl : (L.length : Int) ≤ m) (hb : InB L) : PlI w0 w p b r N m := by
  by_cases ha : addOk m L x ns
  · rw [if_pos ha] at h
    exact ⟨v, _, h, by rw [List.length_append]; have := ha.2; omega, hb.add x ns⟩
  · rw [if_neg ha] at h
    exact ⟨v, _, h, hl, hb⟩
theorem PlI.ack {nd : Int} {ps : List Pt} (h : PlG w0 w p b r N m v (ackL L nd ps) (ackL L nd ps)) (hl : (L.length : Int) ≤ m) (hb : InB L) : PlI w0 w p b r N m :=
  ⟨v, _, h, by have : (ackL L nd ps).length ≤ L.length := List.length_filter_le _ _; omega, hb.ack nd ps⟩
theorem PlI.drop {t : Int} (h : PlG w0 w p b r N m v (dropL L t) (dropL L t)) (hl : (L.length : Int) ≤ m) (hb : InB L) : PlI w0 w p b r N m :=
  ⟨v, _, h, by have : (dropL L t).length ≤ L.length := List.length_filter_le _ _; omega, hb.drop t⟩
end
end Go.Proofs.Ytijgbfhjimlklaa
