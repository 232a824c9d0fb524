/- Words for every seat: worlds that grow, blocks, rows of numbers, drawn regions. No program but the model's own. -/
import Derived.Test.YtpnpnjfflblkpaaProg
import Derived.Test.YtpnpnjfflblkpaaUt
import Derived.WalkLawsBesides
import Derived.KernelRfl
import Derived.BigQuiet
import Derived.StillTail
import Derived.Deep.QuietTactic
import Derived.Deep.RegionHeld3
import Derived.Deep.AppendLies
import Derived.Deep.DeepMust
import Derived.Deep.DeepCutAuto
import Derived.Lib.SliceRun
import Derived.Laws.NewBlocks
import Derived.Maps.OwnSet
import Derived.Maps.AppendAt
import Derived.Maps.RangeWalk
namespace Go.Proofs.Ytpnpnjfflblkpaa
open Go.RowKit Go.Maps

abbrev encI (l : List Int) : List Value := l.flatMap fun x => [.int .i64 x]
theorem encI_map (l : List Int) : encI l = l.map (.int .i64) := by
  induction l with
  | nil => rfl
  | cons x r ih => rw [List.map_cons, ← ih]; rfl
theorem encI_get {l : List Int} {k : Nat} (h : k < l.length) : (encI l)[k]? = some (.int .i64 l[k]) := by
  rw [encI_map]; simp [h]
theorem rd_at {w : World} {v : Value} {l : List Int} (h : rdRow w 1 v l.length (encI l)) : ∃ a cap, v = .slice a l.length cap ∧ l.length ≤ cap ∧ (0 < l.length → ∃ b o, a = some ⟨b, o, none⟩ ∧ ∀ j (hj : j < l.length), w.cell? ⟨b, o + j, none⟩ = some (.int .i64 l[j])) := by
  obtain ⟨_, a, cap, hv, hc, h2⟩ := h
  refine ⟨a, cap, hv, hc, fun hn => ?_⟩
  obtain ⟨b, o, ha, h3⟩ := h2 hn
  exact ⟨b, o, ha, fun j hj => h3 j _ (encI_get hj)⟩

theorem rd_take {w : World} {a : Option Addr} {n cap m : Nat} {l : List Int} (h : rdRow w 1 (.slice a n cap) l.length (encI l)) (hm : m ≤ l.length) : rdRow w 1 (.slice a m cap) (l.take m).length (encI (l.take m)) := by
  obtain ⟨h1, a', cap', hv, hc, h2⟩ := h
  cases hv
  have hl : (l.take m).length = m := by simp; omega
  refine ⟨by simp [encI_map], a, cap, by rw [hl], by omega, fun h0 => ?_⟩
  obtain ⟨b, o, ha, h3⟩ := h2 (by omega)
  refine ⟨b, o, ha, fun j u hu => h3 j u ?_⟩
  rw [encI_map] at hu ⊢
  rw [List.map_take, List.getElem?_take] at hu
  split at hu
  · exact hu
  · cases hu

theorem infoInt : (Try.prog.info? 3).map (fun i => (i.zero, i.size, i.bytes)) = some (some (.int .i64 0), 1, 8) := by kernel_rfl
theorem encI_snoc (l : List Int) (x : Int) : encI (l ++ [x]) = encI l ++ [.int .i64 x] := by simp
/-- A number that an int holds. -/
def I64 (x : Int) : Prop := -9223372036854775808 ≤ x ∧ x ≤ 9223372036854775807
theorem wf_i64 {n : Int} (h : (Lit.int .i64 n).wf = true) : I64 n := by
  have h1 : IntKind.i64.min = -9223372036854775808 := by decide
  have h2 : IntKind.i64.max = 9223372036854775807 := by decide
  simp [Lit.wf, h1, h2] at h
  unfold I64; omega
set_option maxRecDepth 100000 in
theorem wrap_id {x : Int} (h : I64 x) : IntKind.i64.wrap x = x := by unfold I64 at h; simp [IntKind.wrap, IntKind.bits, IntKind.signed]; omega
/-- The worlds in which all stands that stood in W. -/
structure GrW (W : World) where
  w : World
  h : Gr W w
instance (W : World) : Nonempty (GrW W) := ⟨⟨W, Gr.rfl'⟩⟩
/-- A region that draws its order, whose callees leave what was there: one walk, in the text's order. -/
theorem region_gr {P : Program} {id : Nat} {Q : Exit → Act → World → Prop} {a : Act} {w : World} {l : List Oper} (hm : P.follows .mixedOrders = true) (hB : Region.lexB .any l.toArray = true)
    (h : wpQuiet P l.toArray (fun w' => ∃ g : GrW w, w' = g.w) (fun a' => ∀ w', (∃ g : GrW w, w' = g.w) → Q .normal a' w') l a) : (Code.region id l.toArray true).wp P Q a w :=
  wp_region_quiet (C := fun w' => ∃ g : GrW w, w' = g.w) hm hB ⟨⟨_, Gr.dr Gr.rfl'⟩, rfl⟩ (by simpa using h)
theorem al_out (w : World) (o : Obj) : ∃ w2, w.alloc o = w2 ∧ Gr w w2 ∧ w2.heap[w.heap.size]? = some o ∧ w2.heap.size = w.heap.size + 1 :=
  ⟨_, rfl, Gr.al Gr.rfl' o, heap_alloc_new w o, by simp⟩
theorem Gr.blk {W w1 : World} (hb : Gr W w1) {A : Nat} {o : Obj} (h : W.heap[A]? = some o) : w1.heap[A]? = some o :=
  (hb.block A (Array.getElem?_eq_some_iff.1 h).1).trans h
theorem blk_lt {w : World} {A : Nat} {o : Obj} (h : w.heap[A]? = some o) : A < w.heap.size := (Array.getElem?_eq_some_iff.1 h).1
theorem setCells_blk {A : Nat} {T : TypeId} : ∀ (vs : List Value) (o : Nat) (w : World) (z : Array Value), w.heap[A]? = some (.cells z T (0, 0)) →
    ∃ z', (w.setCells A o vs).heap[A]? = some (.cells z' T (0, 0)) ∧ z'.size = z.size ∧ (∀ j, z'[j]? = if o ≤ j ∧ j < o + vs.length ∧ j < z.size then vs[j - o]? else z[j]?) ∧ (w.setCells A o vs).heap.size = w.heap.size ∧ w.grownBy (w.setCells A o vs) (some A)
  | [], o, w, z, h => ⟨z, h, rfl, fun j => by rw [if_neg (by simp; omega)], rfl, ⟨rfl, rfl, rfl, Nat.le_refl _, fun _ _ _ => rfl⟩⟩
  | v :: vs, o, w, z, h => by
    obtain ⟨z', h1, h2, h3, h4, h5⟩ := setCells_blk vs (o + 1) (w.setCell ⟨A, o, none⟩ v) _ (heap_setCell_same w A o z T v h)
    refine ⟨z', h1, by simpa using h2, fun j => ?_, h4.trans (by simp [World.setCell]), ⟨h5.os, h5.tape, h5.output, Nat.le_trans (by simp [World.setCell]) h5.size, fun k hk hne => (h5.block k (by simpa [World.setCell] using hk) hne).trans (heap_setCell_other w _ k v (fun e => hne (by rw [e])))⟩⟩
    rw [h3 j, Array.size_setIfInBounds]
    by_cases hj : j = o
    · subst hj
      rw [if_neg (by omega)]
      by_cases hz : j < z.size
      · rw [if_pos ⟨Nat.le_refl _, by simp, hz⟩]; simp [hz]
      · rw [if_neg (by omega)]; simp [hz]
    · by_cases hc : o + 1 ≤ j ∧ j < o + 1 + vs.length ∧ j < z.size
      · rw [if_pos hc, if_pos ⟨by omega, by simp; omega, hc.2.2⟩]
        rw [show j - o = (j - (o + 1)) + 1 by omega, List.getElem?_cons_succ]
      · rw [if_neg hc, if_neg (by simp; omega), Array.getElem?_setIfInBounds_ne (fun e => hj e.symm)]
theorem setCells_whole {A : Nat} {T : TypeId} (w : World) (z cs : Array Value) (h : w.heap[A]? = some (.cells z T (0, 0))) (hz : z.size = cs.size) :
    (w.setCells A 0 cs.toList).heap[A]? = some (.cells cs T (0, 0)) ∧ (w.setCells A 0 cs.toList).heap.size = w.heap.size ∧ w.grownBy (w.setCells A 0 cs.toList) (some A) := by
  obtain ⟨z', h1, h2, h3, h4, h5⟩ := setCells_blk cs.toList 0 w z h
  have : z' = cs := Array.ext_getElem? fun j => by
    rw [h3 j]
    by_cases hj : j < cs.size
    · rw [if_pos ⟨Nat.zero_le _, by simpa using hj, by omega⟩]; simp
    · rw [if_neg (by simp; omega), Array.getElem?_eq_none (by omega), Array.getElem?_eq_none (by omega)]
  rw [this] at h1
  exact ⟨h1, h4, h5⟩
theorem there_blk {w : World} {A : Nat} {T : TypeId} {z : Array Value} {n : Nat} (h : w.heap[A]? = some (.cells z T (0, 0))) (hz : z.size = n) : w.there A 0 n := fun j hj => by
  rw [Nat.zero_add, cell_of_row w A j z T _ h, Array.getElem?_eq_getElem (by omega)]
  exact ⟨rfl, frozen_of_row w A j z T h⟩
section
variable {P : Program}
theorem wp_store_blk {op : Oper} {a : Act} {w : World} {K : Act → World → Prop} {Q : Exit → Act → World → Prop} (ty : TypeId) (x y : Operand) (ho : op.op = .store ty x y)
    (A : Nat) (cs : Array Value) (hx : a.eval x = .pointer (some ⟨A, 0, none⟩)) (hy : a.eval y = .agg cs) (z : Array Value) (T : TypeId) (hb : w.heap[A]? = some (.cells z T (0, 0))) (hz : z.size = cs.size)
    (hi : (P.info? ty).map (·.size) = some cs.size) (h1 : cs.all (·.oneCell') = true)
    (h : ∀ w', w'.heap[A]? = some (.cells cs T (0, 0)) → w.grownBy w' (some A) → w'.heap.size = w.heap.size → K (a.put op.dst undef) w') : op.wp P a w K Q := by
  obtain ⟨e1, e2, e3⟩ := setCells_whole w z cs hb hz
  exact wp_store_mid ty x y ho A 0 cs hx hy (there_blk hb hz) hi h1 (h _ e1 e3 e2)
theorem wpList_store_blk {ops : Array Oper} {rest : List Oper} {op : Oper} {a : Act} {w : World} {Q : Exit → Act → World → Prop} (hgd : op.guard = none) (ty : TypeId) (x y : Operand) (ho : op.op = .store ty x y)
    (A : Nat) (cs : Array Value) (hx : a.eval x = .pointer (some ⟨A, 0, none⟩)) (hy : a.eval y = .agg cs) (z : Array Value) (T : TypeId) (hb : w.heap[A]? = some (.cells z T (0, 0))) (hz : z.size = cs.size)
    (hi : (P.info? ty).map (·.size) = some cs.size) (h1 : cs.all (·.oneCell') = true)
    (h : ∀ w', w'.heap[A]? = some (.cells cs T (0, 0)) → w.grownBy w' (some A) → w'.heap.size = w.heap.size → wpList P ops Q rest (a.put op.dst undef) w') : wpList P ops Q (op :: rest) a w :=
  wpList_plain hgd fun _ hK => wp_store_blk ty x y ho A cs hx hy z T hb hz hi h1 fun w' a1 a2 a3 => hK _ _ (h w' a1 a2 a3)
theorem exec_load_row {o : Oper} {a : Act} {w : World} (ty : TypeId) (x : Operand) (ho : o.op = .load ty x) (g : Nat) (hx : a.eval x = .pointer (some ⟨g, 0, none⟩)) (t : TypeId) (cs : Array Value) (fr : Nat × Nat) (d : TypeDesc) (hg : w.heap[g]? = some (.cells cs t fr))
    (hu : P.underlying ty = some d) (hd : (match d with | .struct _ | .array _ _ => true | _ => false) = true) (hi : (P.info? ty).map (·.size) = some cs.size) : (execOp a.eval o).run P w = .ok (.value (.agg cs)) w := by
  unfold execOp
  simp only [ho, hx, Instr.loadAt, Instr.sureAddr, Sem.run_bind, Sem.run_pure, Result.andThen_ok, run_loadVar_row w g t ty cs fr d hg hu hd hi]
/-- A load that is guarded, and wanted. -/
theorem wpList_load_rowg {ops : Array Oper} {rest : List Oper} {o : Oper} {a : Act} {w : World} {Q : Exit → Act → World → Prop} (hgd : Region.wanted o (yielded ops a.tmps) = true) (ty : TypeId) (x : Operand) (ho : o.op = .load ty x)
    (g : Nat) (hx : a.eval x = .pointer (some ⟨g, 0, none⟩)) (t : TypeId) (cs : Array Value) (fr : Nat × Nat) (d : TypeDesc) (hg : w.heap[g]? = some (.cells cs t fr))
    (hu : P.underlying ty = some d) (hd : (match d with | .struct _ | .array _ _ => true | _ => false) = true) (hi : (P.info? ty).map (·.size) = some cs.size)
    (h : wpList P ops Q rest (a.put o.dst (.agg cs)) w) : wpList P ops Q (o :: rest) a w :=
  wpList_step fun _ hK => by rw [if_pos hgd]; exact wp_load_row ty x ho g hx t cs fr d hg hu hd hi (hK _ _ h)
/-- Results: a struct that lies in memory, and a value. -/
theorem results_cell_tmp {fn : Func} {p q : Tmp} {ty : TypeId} (h : fn.results = #[.cell p ty, .tmp q]) (tmps : Array Value) (w : World) (g : Nat) (t : TypeId) (cs : Array Value) (fr : Nat × Nat) (d : TypeDesc)
    (hp : tmps.getD p undef = .pointer (some ⟨g, 0, none⟩)) (hg : w.heap[g]? = some (.cells cs t fr))
    (hu : P.underlying ty = some d) (hd : (match d with | .struct _ | .array _ _ => true | _ => false) = true) (hi : (P.info? ty).map (·.size) = some cs.size) :
    (results fn tmps).run P w = .ok (.tuple #[.agg cs, tmps.getD q undef]) w := by
  have hp' : tmps[p]?.getD undef = .pointer (some ⟨g, 0, none⟩) := by simpa using hp
  simp [results, h, hp', asAddr, run_loadVar_row w g t ty cs fr d hg hu hd hi]
end
/-- The beginning of a region's walk, the world behind the draw under a name. -/
theorem region_start {P : Program} {ops : Array Oper} {Q : Exit → Act → World → Prop} {S : World → Prop} {id : Nat} {a : Act} {w : World} (hm : P.follows .mixedOrders = true) (hS : S w.drew)
    (h : ∀ w1, Gr w w1 → S w1 → wpAnyH P .any ops Q S ops.size (Array.replicate ops.size false) a w1) : (Code.region id ops true).wp P Q a w :=
  wp_region_held_drew hm hS (fun h0 => h _ (Gr.dr Gr.rfl') h0)
/-- Behind a store into a block that is new. -/
theorem gr_new {w0 w w1 : World} {A : Nat} (h : Gr w0 w) (hg : w.grownBy w1 (some A)) (ha : w0.heap.size ≤ A) : Gr w0 w1 := h.grown hg h.size (fun k hk => by cases hk; exact ha)
theorem blk_far {w w1 : World} {A B : Nat} {o : Obj} (hg : w.grownBy w1 (some A)) (h : w.heap[B]? = some o) (hne : B ≠ A) : w1.heap[B]? = some o :=
  (hg.block B (blk_lt h) (fun e => hne (by injection e))).trans h
section
variable {P : Program} {ops : Array Oper} {Q : Exit → Act → World → Prop} {md : Region.Mode} {S : World → Prop} {m : Nat}
/-- What is listed is closed, and no operation of the tail is among it. -/
def headB (md : Region.Mode) (ops : Array Oper) (m : Nat) (listed : Array Bool) : Bool :=
  decide (listed.size = ops.size) && (List.range ops.size).all (fun j => match ops[j]? with | some o => !listed.getD j false || o.after.all (fun e => !Region.binds md e || listed.getD e.on false) | none => true) &&
    (List.range ops.size).all (fun t => decide (t < m) || !listed.getD t true)
theorem headB_spec {listed : Array Bool} (h : headB md ops m listed = true) : HeadInv md ops m listed := by
  simp only [headB, Bool.and_eq_true, decide_eq_true_eq] at h
  obtain ⟨⟨h1, h2⟩, h3⟩ := h
  refine ⟨h1, fun j oj hoj hl e he hb => ?_, fun t ht htl => ?_⟩
  · have hlt : j < ops.size := (Array.getElem?_eq_some_iff.1 hoj).1
    have := List.all_eq_true.1 h2 j (List.mem_range.2 hlt)
    simp only [hoj, hl, Bool.not_true, Bool.false_or] at this
    have h5 := Array.all_eq_true_iff_forall_mem.1 this e he
    simp only [hb, Bool.not_true, Bool.false_or] at h5
    exact h5
  · have := List.all_eq_true.1 h3 t (List.mem_range.2 htl)
    simp only [Bool.or_eq_true, decide_eq_true_eq, Bool.not_eq_true'] at this
    exact this.resolve_left (by omega)
/-- The tail waits for all that is ahead. -/
def tailB (md : Region.Mode) (ops : Array Oper) (m : Nat) : Bool := decide (m < ops.size) && Region.sinkB md ops m && Region.chainB md ops m
theorem tail_not {listed : Array Bool} (hT : tailB md ops m = true) (inv : HeadInv md ops m listed) {i j : Nat} (him : i < m) (hr : i ∈ Region.ready md ops listed) (hj : j ∈ Region.ready md ops listed) : j < m := by
  simp only [tailB, Bool.and_eq_true, decide_eq_true_eq] at hT
  rcases Nat.lt_or_ge j m with h | h
  · exact h
  · exact absurd hj (tail_waits hT.1.2 hT.2 hT.1.1 inv _ i rfl him (mem_ready.1 hr).1 j h)
/-- Whatever order is picked from here on: S holds behind each operation ahead of number m. -/
def wpAnyJ (P : Program) (md : Region.Mode) (ops : Array Oper) (Q : Exit → Act → World → Prop) (S : World → Prop) (m : Nat) : Nat → Array Bool → Act → World → Prop
  | 0, listed, a, w => Region.ready md ops listed = [] ∧ Q .normal a w
  | fuel + 1, listed, a, w =>
    (Region.ready md ops listed = [] → Q .normal a w) ∧
    ∀ i ∈ Region.ready md ops listed, if m ≤ i then wpOp P ops Q i (wpAny P md ops Q fuel (listed.setIfInBounds i true)) a w
      else wpOp P ops Q i (fun a' w' => S w' ∧ wpAnyJ P md ops Q S m fuel (listed.setIfInBounds i true) a' w') a w
theorem wpAny_of_J : ∀ (fuel : Nat) (listed : Array Bool) (a : Act) (w : World), wpAnyJ P md ops Q S m fuel listed a w → wpAny P md ops Q fuel listed a w
  | 0, _, _, _, h => h
  | fuel + 1, _, _, _, h => ⟨h.1, fun i hi => by
    have h2 := h.2 i hi
    split at h2
    · exact h2
    · exact wpOp_mono (fun a' w' h' => wpAny_of_J fuel _ a' w' h'.2) h2⟩
theorem wpAnyJ_first {i : Nat} {oi : Oper} {v : Value} (hi : ops[i]? = some oi) (him : i < m) (hT : tailB md ops m = true) (hsel : ∀ (j : Nat) (o : Oper) cs b, ops[j]? = some o → o.op ≠ .select cs b)
    (hQ : ∀ c a w, Q (.panic c) (a.put oi.dst v) w → Q (.panic c) a w) :
    ∀ (fuel : Nat) (listed : Array Bool) (a : Act) (w : World), HeadInv md ops m listed →
      (∀ j oj, ops[j]? = some oj → j ≠ i → listed.getD j true = false → (∀ e ∈ oj.after, Region.binds md e = true → e.on ≠ i) → oi.apart ops oj = true) →
      i ∈ Region.ready md ops listed → YieldsIf P ops S oi v a → S w →
      wpAnyJ P md ops Q S m fuel (listed.setIfInBounds i true) (a.put oi.dst v) w → wpAnyJ P md ops Q S m (fuel + 1) listed a w := by
  intro fuel
  induction fuel with
  | zero =>
    intro listed a w inv _ hr hy hS H
    refine ⟨fun h => (by rw [h] at hr; cases hr), fun j hj => ?_⟩
    have hjm := tail_not hT inv him hr hj
    rw [if_neg (Nat.not_le.2 hjm)]
    by_cases hji : j = i
    · subst hji; exact hy.wpOp hi hS ⟨hS, H⟩
    · have := ready_mono hj hji
      rw [H.1] at this
      cases this
  | succ fuel ih =>
    intro listed a w inv hfree hr hy hS H
    refine ⟨fun h => (by rw [h] at hr; cases hr), fun j hj => ?_⟩
    have hjm := tail_not hT inv him hr hj
    rw [if_neg (Nat.not_le.2 hjm)]
    by_cases hji : j = i
    · subst hji; exact hy.wpOp hi hS ⟨hS, H⟩
    · have h1 := H.2 j (ready_mono hj hji)
      rw [if_neg (Nat.not_le.2 hjm)] at h1
      obtain ⟨hjun, oj, hoj, hall⟩ := mem_ready.1 hj
      have hnot : ∀ e ∈ oj.after, Region.binds md e = true → e.on ≠ i := fun e he hb heq => by
        have h1 := hall e he hb
        have h0 := (mem_ready.1 hr).1
        rw [heq] at h1
        rcases Nat.lt_or_ge i listed.size with h' | h'
        · simp [h'] at h0 h1; rw [h0] at h1; cases h1
        · simp [Array.getElem?_eq_none h'] at h1
      have h2 := wpOp_putIf hoj (hfree j oj hoj hji hjun hnot) (fun cs b => hsel i oi cs b hi) (fun cs b => hsel j oj cs b hoj) hQ hy h1
      have hfree' : ∀ k ok, ops[k]? = some ok → k ≠ i → (listed.setIfInBounds j true).getD k true = false →
          (∀ e ∈ ok.after, Region.binds md e = true → e.on ≠ i) → oi.apart ops ok = true := fun k ok hk hki hun hno => by
        refine hfree k ok hk hki ?_ hno
        by_cases hjk : j = k
        · subst hjk; exact hjun
        · rw [getD_set_ne true hjk] at hun; exact hun
      refine wpOp_mono (fun a' w' h3 => ⟨h3.2.1, ih (listed.setIfInBounds j true) a' w' (inv.set hj hjm) hfree' (ready_mono hr (Ne.symm hji)) h3.1 h3.2.1 ?_⟩) h2
      rw [Array.setIfInBounds_comm _ _ hji]
      exact h3.2.2
/-- Take number 'i' first. -/
theorem wpAnyJ_take {i : Nat} {oi : Oper} {v : Value} {fuel : Nat} {listed : Array Bool} {a : Act} {w : World} (hi : ops[i]? = some oi)
    (hx : (decide (i < m) && tailB md ops m && headB md ops m listed && Region.noSelect ops && Region.free md ops listed i && (Region.ready md ops listed).contains i) = true)
    (hQ : ∀ c a w, Q (.panic c) (a.put oi.dst v) w → Q (.panic c) a w) (hy : YieldsIf P ops S oi v a) (hS : S w)
    (h : wpAnyJ P md ops Q S m fuel (listed.setIfInBounds i true) (a.put oi.dst v) w) : wpAnyJ P md ops Q S m (fuel + 1) listed a w := by
  simp only [Bool.and_eq_true, decide_eq_true_eq] at hx
  obtain ⟨⟨⟨⟨⟨h1, h2⟩, h6⟩, h3⟩, h4⟩, h5⟩ := hx
  exact wpAnyJ_first hi h1 h2 (Region.noSelect_spec h3) hQ fuel listed a w (headB_spec h6) (Region.free_spec hi h4) (by simpa using h5) hy hS h
/-- One operation is left to come up (ahead of the tail), or several. -/
def AllReadyJ (P : Program) (md : Region.Mode) (ops : Array Oper) (Q : Exit → Act → World → Prop) (S : World → Prop) (m fuel : Nat) (listed : Array Bool) (a : Act) (w : World) (rs : List Nat) : Prop :=
  ∀ i ∈ rs, wpOp P ops Q i (fun a' w' => S w' ∧ wpAnyJ P md ops Q S m fuel (listed.setIfInBounds i true) a' w') a w
theorem AllReadyJ.nil {fuel : Nat} {listed : Array Bool} {a : Act} {w : World} : AllReadyJ P md ops Q S m fuel listed a w [] := fun _ h => by cases h
theorem AllReadyJ.cons {fuel : Nat} {listed : Array Bool} {a : Act} {w : World} {i : Nat} {o : Oper} {rs : List Nat} (ho : ops[i]? = some o)
    (h : ∀ K' : Act → World → Prop, Shut (∀ a w, S w → (S w → wpAnyJ P md ops Q S m fuel (listed.setIfInBounds i true) a w) → K' a w) → if Region.wanted o (yielded ops a.tmps) = true then Oper.wp P o a w K' Q else K' (a.put o.dst undef) w)
    (hs : AllReadyJ P md ops Q S m fuel listed a w rs) : AllReadyJ P md ops Q S m fuel listed a w (i :: rs) := fun j hj => by
  rcases List.mem_cons.1 hj with rfl | hj
  · exact wpOp_step ho (fun K' hK => h K' (fun a w hS hW => hK a w ⟨hS, hW hS⟩))
  · exact hs j hj
theorem wpAnyJ_ready {rs : List Nat} {fuel : Nat} {listed : Array Bool} {a : Act} {w : World} (hr : Region.ready md ops listed = rs) (hne : rs ≠ []) (hm : (rs.all fun i => decide (i < m)) = true)
    (h : AllReadyJ P md ops Q S m fuel listed a w rs) : wpAnyJ P md ops Q S m (fuel + 1) listed a w := by
  refine ⟨fun h0 => absurd (hr ▸ h0) hne, fun i hi => ?_⟩
  rw [hr] at hi
  have := List.all_eq_true.1 hm i hi
  simp only [decide_eq_true_eq] at this
  rw [if_neg (by omega)]
  exact h i hi
/-- The tail: one after another. -/
theorem wpAnyJ_tail {i : Nat} {o : Oper} {fuel : Nat} {listed : Array Bool} {a : Act} {w : World} (hr : Region.ready md ops listed = [i]) (hm : m ≤ i) (ho : ops[i]? = some o)
    (h : ∀ K' : Act → World → Prop, Shut (∀ a w, wpAny P md ops Q fuel (listed.setIfInBounds i true) a w → K' a w) → if Region.wanted o (yielded ops a.tmps) = true then Oper.wp P o a w K' Q else K' (a.put o.dst undef) w) :
    wpAnyJ P md ops Q S m (fuel + 1) listed a w := by
  refine ⟨fun h0 => absurd (hr ▸ h0) (by simp), fun j hj => ?_⟩
  rw [hr] at hj
  have : j = i := by simpa using hj
  subst this
  rw [if_pos hm]
  exact wpOp_step ho (fun K' hK => h K' hK)
theorem wpAny_one {i : Nat} {o : Oper} {fuel : Nat} {listed : Array Bool} {a : Act} {w : World} (hr : Region.ready md ops listed = [i]) (ho : ops[i]? = some o)
    (h : ∀ K' : Act → World → Prop, Shut (∀ a w, wpAny P md ops Q fuel (listed.setIfInBounds i true) a w → K' a w) → if Region.wanted o (yielded ops a.tmps) = true then Oper.wp P o a w K' Q else K' (a.put o.dst undef) w) :
    wpAny P md ops Q (fuel + 1) listed a w := by
  refine ⟨fun h0 => absurd (hr ▸ h0) (by simp), fun j hj => ?_⟩
  rw [hr] at hj
  have : j = i := by simpa using hj
  subst this
  exact wpOp_step ho (fun K' hK => h K' hK)
theorem region_startJ {id : Nat} {a : Act} {w : World} (m : Nat) (hm : P.follows .mixedOrders = true) (hS : S w.drew)
    (h : ∀ w1, Gr w w1 → S w1 → wpAnyJ P .any ops Q S m ops.size (Array.replicate ops.size false) a w1) : (Code.region id ops true).wp P Q a w :=
  wp_region_any hm (wpAny_of_J _ _ _ _ (h _ (Gr.dr Gr.rfl') hS))
end
theorem wp_delete_run {P : Program} {op : Oper} {a : Act} {w w' : World} {K : Act → World → Prop} {Q : Exit → Act → World → Prop} (m x : Operand) (t k : TypeId) (hop : op.op = Op.call { callee := Callee.builtin Builtin.delete, args := #[m, x], argTypes := #[t, k] })
    (mv xv : Value) (hm : a.eval m = mv) (hx : a.eval x = xv) (hrun : ∀ ty, (Builtin.delete_ #[t, k] ty #[mv, xv]).run P w = .ok (.tuple #[]) w') (h : K (a.put op.dst (.tuple #[])) w') : op.wp P a w K Q := by
  unfold Oper.wp
  simp [execOp, hop, resolve, invoke, builtin, hm, hx, hrun, Result.andThen]
  exact h
theorem wp_store_cell {P : Program} {op : Oper} {a : Act} {w : World} {K : Act → World → Prop} {Q : Exit → Act → World → Prop} (ty : TypeId) (x y : Operand) (ho : op.op = .store ty x y)
    (p : Addr) (v : Value) (hx : a.eval x = .pointer (some p)) (hy : a.eval y = v) (hv : (store p v .plain).run P w = .ok () (w.setCell p v)) (hi : ∀ w, (storeVar ty p v).run P w = (store p v .plain).run P w)
    (h : K (a.put op.dst undef) (w.setCell p v)) : op.wp P a w K Q := by
  unfold Oper.wp execOp
  simp only [ho, hx, hy, Instr.storeAt, Instr.sureAddr, Sem.run_bind, Sem.run_pure, Result.andThen_ok, hi, hv]
  exact h
/-- A row that is read, in no block of X. -/
def rdX (X : Nat → Prop) (w : World) (v : Value) (l : List Int) : Prop := rdRow w 1 v l.length (encI l) ∧ ∀ a n c, v = .slice (some a) n c → 0 < l.length → ¬ X a.block
theorem rdX.mono {X Y : Nat → Prop} {w : World} {v : Value} {l : List Int} (h : rdX X w v l) (hy : ∀ k, Y k → X k) : rdX Y w v l := ⟨h.1, fun a n c e h0 hk => h.2 a n c e h0 (hy _ hk)⟩
theorem rdX.gr {X : Nat → Prop} {w w1 : World} {v : Value} {l : List Int} (h : rdX X w v l) (hg : Gr w w1) : rdX X w1 v l := ⟨h.1.gr hg, h.2⟩
abbrev Fresh (w : World) (k : Nat) : Prop := k < w.heap.size
/-- All stands as it stood but in the blocks of X. -/
structure Bt (X : Nat → Prop) (w w' : World) : Prop where
  os : w'.os = w.os
  tape : w'.tape = w.tape
  output : w'.output = w.output
  size : w.heap.size ≤ w'.heap.size
  block : ∀ k, k < w.heap.size → ¬ X k → w'.heap[k]? = w.heap[k]?
theorem Bt.of {X : Nat → Prop} {w w' : World} (h : Gr w w') : Bt X w w' := ⟨h.os, h.tape, h.output, h.size, fun k hk _ => h.block k hk⟩
theorem Bt.rfl' {X : Nat → Prop} {w : World} : Bt X w w := .of Gr.rfl'
theorem Bt.tr {X : Nat → Prop} {a b c : World} (h : Bt X a b) (k : Bt X b c) : Bt X a c :=
  ⟨k.os.trans h.os, k.tape.trans h.tape, k.output.trans h.output, Nat.le_trans h.size k.size, fun i hi hx => (k.block i (Nat.lt_of_lt_of_le hi h.size) hx).trans (h.block i hi hx)⟩
theorem Bt.mono {X Y : Nat → Prop} {a b : World} (h : Bt X a b) (hy : ∀ k, k < a.heap.size → X k → Y k) : Bt Y a b := ⟨h.os, h.tape, h.output, h.size, fun k hk hx => h.block k hk (fun e => hx (hy k hk e))⟩
theorem Bt.gr {X : Nat → Prop} {w0 a b : World} (h : Bt X a b) (hg : Gr w0 a) (hx : ∀ k, X k → w0.heap.size ≤ k) : Gr w0 b :=
  ⟨h.os.trans hg.os, h.tape.trans hg.tape, h.output.trans hg.output, Nat.le_trans hg.size h.size, fun k hk => (h.block k (Nat.lt_of_lt_of_le hk hg.size) (fun e => by have := hx k e; omega)).trans (hg.block k hk)⟩
theorem Bt.row {X : Nat → Prop} {w w' : World} {b : Nat} (h : w.grownBy w' (some b)) (hb : X b) : Bt X w w' :=
  ⟨h.os, h.tape, h.output, h.size, fun k hk hx => h.block k hk (fun e => hx (by cases e; exact hb))⟩
theorem Bt.cell {X : Nat → Prop} {w w' : World} (h : Bt X w w') {p : Addr} {v : Value} (hx : ¬ X p.block) (hc : w.cell? p = some v) : w'.cell? p = some v := by
  have hl := World.block_lt_of_cell? w p hc
  have hb := h.block p.block hl hx
  unfold World.cell? at hc ⊢
  rw [hb]; exact hc
theorem rdX.bt {X Y : Nat → Prop} {w w' : World} {v : Value} {l : List Int} (h : rdX X w v l) (hb : Bt Y w w') (hy : ∀ k, Y k → X k) : rdX X w' v l := by
  obtain ⟨⟨h1, a, c, e, h2, h3⟩, h4⟩ := h
  refine ⟨⟨h1, a, c, e, h2, fun h0 => ?_⟩, h4⟩
  obtain ⟨b, o, ea, hc⟩ := h3 h0
  subst ea
  exact ⟨b, o, rfl, fun j u hu => hb.cell (fun hk => h4 _ _ _ e h0 (hy _ hk)) (hc j u hu)⟩
theorem rdX_below {w : World} {v : Value} {l : List Int} (h : rdRow w 1 v l.length (encI l)) : rdX (fun k => w.heap.size ≤ k) w v l := by
  refine ⟨h, fun a n c e h0 hk => ?_⟩
  obtain ⟨a', c', e', _, hc⟩ := rd_at h
  obtain ⟨b, o, ea, hcl⟩ := hc h0
  rw [e] at e'
  injection e' with e1
  rw [ea] at e1
  injection e1 with e2
  subst e2
  have hk' : w.heap.size ≤ b := hk
  have := World.block_lt_of_cell? w _ (hcl 0 h0)
  simp at this; omega
theorem rdX.wid {X Y : Nat → Prop} {w : World} {v : Value} {l : List Int} (h : rdX X w v l) (hy : ∀ k, Y k → X k ∨ w.heap.size ≤ k) : rdX Y w v l :=
  ⟨h.1, fun a n c e h0 hk => (hy _ hk).elim (fun hx => h.2 a n c e h0 hx) (fun hx => (rdX_below h.1).2 a n c e h0 hx)⟩
theorem own_rdX {w : World} {base e : Nat} {v : Value} {l : List Int} (h : w.ownsRow base e 1 v l.length (encI l)) : rdX (fun k => k < base) w v l := by
  refine ⟨rdRow_of_own h, fun a n c ev h0 hk => ?_⟩
  rcases h.2 with ⟨hv, _⟩ | ⟨g, cap, cur, hv, hb, _⟩
  · rw [hv] at ev; cases ev
  · rw [hv] at ev
    injection ev with e1
    injection e1 with e1
    rw [← e1] at hk
    have hk' : g < base := hk
    omega
theorem Bt.new {X : Nat → Prop} {w a b : World} {A : Nat} (h : Bt X w a) (hg : a.grownBy b (some A)) (hA : w.heap.size ≤ A) : Bt X w b :=
  ⟨hg.os.trans h.os, hg.tape.trans h.tape, hg.output.trans h.output, Nat.le_trans h.size hg.size, fun k hk hx => (hg.block k (Nat.lt_of_lt_of_le hk h.size) (fun e => by injection e with e; omega)).trans (h.block k hk hx)⟩
theorem grown_set (w : World) (A o : Nat) (x : Value) : w.grownBy (w.setCell ⟨A, o, none⟩ x) (some A) :=
  ⟨rfl, rfl, rfl, by simp [World.setCell], fun k _ hne => heap_setCell_other w _ k x (fun e => hne (by rw [e]))⟩
theorem flat_get {α : Type} (e : α → List Value) (k : Nat) (hk : ∀ x, (e x).length = k) : ∀ (L : List α) (j : Nat) (hj : j < L.length) (i : Nat), i < k → (L.flatMap e)[j * k + i]? = (e L[j])[i]?
  | [], j, hj, _, _ => by simp at hj
  | x :: r, 0, _, i, hi => by
    rw [List.flatMap_cons, List.getElem?_append_left (by rw [hk]; omega)]
    simp
  | x :: r, j + 1, hj, i, hi => by
    rw [List.flatMap_cons, List.getElem?_append_right (by rw [hk, Nat.add_mul]; omega), hk, Nat.add_mul, show j * k + 1 * k + i - k = j * k + i by omega]
    exact flat_get e k hk r j (by simpa using hj) i hi
/-- An element of a row that is read: its cells. -/
theorem rd_range {α : Type} (e : α → List Value) (k : Nat) (hk : ∀ x, (e x).length = k) {w : World} {v : Value} {L : List α} (h : rdRow w k v L.length (L.flatMap e)) (hn : 0 < L.length) :
    ∃ b o c, v = .slice (some ⟨b, o, none⟩) L.length c ∧ L.length ≤ c ∧ ∀ j (hj : j < L.length), w.rangeAt b (o + j * k) (e L[j]) := by
  obtain ⟨_, a, c, rfl, hc, h2⟩ := h
  obtain ⟨b, o, rfl, h3⟩ := h2 hn
  refine ⟨b, o, c, rfl, hc, fun j hj i u hu => ?_⟩
  have hi : i < k := by have := (List.getElem?_eq_some_iff.1 hu).1; rw [hk] at this; exact this
  have := h3 (j * k + i) u (by rw [flat_get e k hk L j hj i hi]; exact hu)
  rwa [Nat.add_assoc]
theorem rangeAt_gr {w w1 : World} (hg : Gr w w1) {b o : Nat} {cs : List Value} (h : w.rangeAt b o cs) : w1.rangeAt b o cs := fun j v hv => keepc hg (h j v hv)
theorem rangeAt_blk {w : World} {A : Nat} {cs : Array Value} {T : TypeId} (h : w.heap[A]? = some (.cells cs T (0, 0))) (o : Nat) (l : List Value) (hl : ∀ j u, l[j]? = some u → cs[o + j]? = some u) : w.rangeAt A o l := fun j u hu => by
  rw [cell_of_row w A _ _ _ _ h]; exact hl j u hu
theorem own_bt {X : Nat → Prop} {w w' : World} {base e size n : Nat} {v : Value} {xs : List Value} (h : w.ownsRow base e size v n xs) (hb : Bt X w w') (hx : ∀ k, v.ownBlock = some k → ¬ X k) : w'.ownsRow base e size v n xs := by
  refine ⟨h.1, ?_⟩
  rcases h.2 with h2 | ⟨g, cap, cur, hv, hg, hh, hr⟩
  · exact .inl h2
  · exact .inr ⟨g, cap, cur, hv, hg, (hb.block g (blk_lt hh) (hx g (by rw [hv]; rfl))).trans hh, hr⟩
theorem wpList_len_map {P : Program} (w : World) {ops : Array Oper} {rest : List Oper} {o : Oper} {a : Act} {Q : Exit → Act → World → Prop} (hg : o.guard = none) (m : Operand) (t : TypeId) (hop : o.op = Op.call { callee := Callee.builtin Builtin.len, args := #[m], argTypes := #[t] })
    (mb : Option Nat) (hm : a.eval m = .map mb) (n : Nat) (hl : ∀ ty, (Builtin.len_ #[t] ty #[.map mb]).run P w = .ok (.int .i64 n) w)
    (hK : wpList P ops Q rest (a.put o.dst (.int .i64 n)) w) : wpList P ops Q (o :: rest) a w := by
  refine wpList_plain hg fun K' hK' => ?_
  unfold Oper.wp
  simp [execOp, hop, resolve, invoke, builtin, hm, hl o.type, Result.andThen]
  exact hK' _ _ hK
theorem wpList_look_map {P : Program} (w : World) {ops : Array Oper} {rest : List Oper} {o : Oper} {a : Act} {Q : Exit → Act → World → Prop} (hg : o.guard = none) (m x : Operand) (t : TypeId) (hop : o.op = Op.lookup t m x true)
    (mb : Option Nat) (hm : a.eval m = .map mb) (key : Value) (hx : a.eval x = key) (v : Value) (is : Bool) (hl : (Instr.lookup t (.map mb) key true).run P w = .ok (.tuple #[v, .bool is]) w)
    (hK : wpList P ops Q rest (a.put o.dst (.tuple #[v, .bool is])) w) : wpList P ops Q (o :: rest) a w := by
  refine wpList_plain hg fun K' hK' => ?_
  unfold Oper.wp
  simp [execOp, hop, hm, hx, hl, Result.andThen]
  exact hK' _ _ hK
theorem wp_mapUpdate_run {P : Program} {op : Oper} {a : Act} {w w' : World} {K : Act → World → Prop} {Q : Exit → Act → World → Prop} (m x v : Operand) (t : TypeId) (hop : op.op = Op.mapUpdate t m x v)
    (mv kv' vv : Value) (hm : a.eval m = mv) (hx : a.eval x = kv') (hv : a.eval v = vv) (hrun : (Instr.mapUpdate t mv kv' vv).run P w = .ok () w') (h : K (a.put op.dst undef) w') : op.wp P a w K Q := by
  unfold Oper.wp
  simp [execOp, hop, hm, hx, hv, hrun, Result.andThen]
  exact h
theorem exec_load_mid {P : Program} {o : Oper} {a : Act} {w : World} (ty : TypeId) (x : Operand) (ho : o.op = .load ty x) (b f : Nat) (hx : a.eval x = .pointer (some ⟨b, f, none⟩)) (cs : List Value) (d : TypeDesc) (hc : w.rangeAt b f cs)
    (hu : P.underlying ty = some d) (hd : d.isRow = true) (hi : (P.info? ty).map (·.size) = some cs.length) : (execOp a.eval o).run P w = .ok (.value (.agg cs.toArray)) w := by
  unfold execOp
  simp only [ho, hx, Instr.loadAt, Instr.sureAddr, Sem.run_bind, Sem.run_pure, Result.andThen_ok, run_loadVar_mid w b f ty cs d hc hu hd hi]
theorem rdX_nil {X : Nat → Prop} {w : World} : rdX X w (.slice none 0 0) ([] : List Int) := ⟨⟨rfl, none, 0, rfl, Nat.le_refl _, fun h => absurd h (by decide)⟩, fun a n c e h0 => absurd h0 (by decide)⟩
theorem rdX_one {X : Nat → Prop} {w : World} {d : Value} {l : List Int} (h : rdX X w d l) : d.oneCell' = true := by
  obtain ⟨⟨_, a, c, rfl, _⟩, _⟩ := h; rfl
theorem ranges_gr {a b : World} {k : TypeId} {R : Value → Option (DataW Value × List MemPlace)} {m r n : Nat} {D : DataW Value} {left : Lit → Bool} {cnt : Nat} (h : a.ranges Try.prog k R m r n D left cnt) (hg : Gr a b) : b.ranges Try.prog k R m r n D left cnt :=
  h.kept (row := none) ⟨hg.os, hg.tape, hg.output, hg.size, fun i hi _ => hg.block i hi⟩ (by simp) (by simp)
end Go.Proofs.Ytpnpnjfflblkpaa
