/- Blocks told whole: a struct is stored into its block, loaded out of it; a new block; results that lie in memory. No program in sight. -/
import Derived.Test.YtnneebdcaefgoaaCaQ
import Derived.Deep.RegionHeld3
namespace Go.Proofs.Ytnneebdcaefgoaa
open Go.RowKit

theorem al_out (w : World) (o : Obj) : ∃ w2, w.alloc o = w2 ∧ Gr w w2 ∧ w2.heap[w.heap.size]? = some o ∧ w2.heap.size = w.heap.size + 1 :=
  ⟨_, rfl, Gr.al Gr.rfl' o, heap_alloc_new w o, by simp⟩
theorem Gr.blk {W w1 : World} (hb : Gr W w1) {A : Nat} {o : Obj} (h : W.heap[A]? = some o) : w1.heap[A]? = some o :=
  (hb.block A (Array.getElem?_eq_some_iff.1 h).1).trans h
theorem blk_lt {w : World} {A : Nat} {o : Obj} (h : w.heap[A]? = some o) : A < w.heap.size := (Array.getElem?_eq_some_iff.1 h).1
theorem setCells_blk {A : Nat} {T : TypeId} : ∀ (vs : List Value) (o : Nat) (w : World) (z : Array Value), w.heap[A]? = some (.cells z T (0, 0)) →
    ∃ z', (w.setCells A o vs).heap[A]? = some (.cells z' T (0, 0)) ∧ z'.size = z.size ∧ (∀ j, z'[j]? = if o ≤ j ∧ j < o + vs.length ∧ j < z.size then vs[j - o]? else z[j]?) ∧ (w.setCells A o vs).heap.size = w.heap.size ∧ w.grownBy (w.setCells A o vs) (some A)
  | [], o, w, z, h => ⟨z, h, rfl, fun j => by rw [if_neg (by simp; omega)], rfl, ⟨rfl, rfl, rfl, Nat.le_refl _, fun _ _ _ => rfl⟩⟩
  | v :: vs, o, w, z, h => by
    obtain ⟨z', h1, h2, h3, h4, h5⟩ := setCells_blk vs (o + 1) (w.setCell ⟨A, o, none⟩ v) _ (heap_setCell_same w A o z T v h)
    refine ⟨z', h1, by simpa using h2, fun j => ?_, h4.trans (by simp [World.setCell]), ⟨h5.os, h5.tape, h5.output, Nat.le_trans (by simp [World.setCell]) h5.size, fun k hk hne => (h5.block k (by simpa [World.setCell] using hk) hne).trans (heap_setCell_other w _ k v (fun e => hne (by rw [e])))⟩⟩
    rw [h3 j, Array.size_setIfInBounds]
    by_cases hj : j = o
    · subst hj
      rw [if_neg (by omega)]
      by_cases hz : j < z.size
      · rw [if_pos ⟨Nat.le_refl _, by simp, hz⟩]; simp [hz]
      · rw [if_neg (by omega)]; simp [hz]
    · by_cases hc : o + 1 ≤ j ∧ j < o + 1 + vs.length ∧ j < z.size
      · rw [if_pos hc, if_pos ⟨by omega, by simp; omega, hc.2.2⟩]
        rw [show j - o = (j - (o + 1)) + 1 by omega, List.getElem?_cons_succ]
      · rw [if_neg hc, if_neg (by simp; omega), Array.getElem?_setIfInBounds_ne (fun e => hj e.symm)]
theorem setCells_whole {A : Nat} {T : TypeId} (w : World) (z cs : Array Value) (h : w.heap[A]? = some (.cells z T (0, 0))) (hz : z.size = cs.size) :
    (w.setCells A 0 cs.toList).heap[A]? = some (.cells cs T (0, 0)) ∧ (w.setCells A 0 cs.toList).heap.size = w.heap.size ∧ w.grownBy (w.setCells A 0 cs.toList) (some A) := by
  obtain ⟨z', h1, h2, h3, h4, h5⟩ := setCells_blk cs.toList 0 w z h
  have : z' = cs := Array.ext_getElem? fun j => by
    rw [h3 j]
    by_cases hj : j < cs.size
    · rw [if_pos ⟨Nat.zero_le _, by simpa using hj, by omega⟩]; simp
    · rw [if_neg (by simp; omega), Array.getElem?_eq_none (by omega), Array.getElem?_eq_none (by omega)]
  rw [this] at h1
  exact ⟨h1, h4, h5⟩
theorem there_blk {w : World} {A : Nat} {T : TypeId} {z : Array Value} {n : Nat} (h : w.heap[A]? = some (.cells z T (0, 0))) (hz : z.size = n) : w.there A 0 n := fun j hj => by
  rw [Nat.zero_add, cell_of_row w A j z T _ h, Array.getElem?_eq_getElem (by omega)]
  exact ⟨rfl, frozen_of_row w A j z T h⟩
section
variable {P : Program}
theorem wp_store_blk {op : Oper} {a : Act} {w : World} {K : Act → World → Prop} {Q : Exit → Act → World → Prop} (ty : TypeId) (x y : Operand) (ho : op.op = .store ty x y)
    (A : Nat) (cs : Array Value) (hx : a.eval x = .pointer (some ⟨A, 0, none⟩)) (hy : a.eval y = .agg cs) (z : Array Value) (T : TypeId) (hb : w.heap[A]? = some (.cells z T (0, 0))) (hz : z.size = cs.size)
    (hi : (P.info? ty).map (·.size) = some cs.size) (h1 : cs.all (·.oneCell') = true)
    (h : ∀ w', w'.heap[A]? = some (.cells cs T (0, 0)) → w.grownBy w' (some A) → w'.heap.size = w.heap.size → K (a.put op.dst undef) w') : op.wp P a w K Q := by
  obtain ⟨e1, e2, e3⟩ := setCells_whole w z cs hb hz
  exact wp_store_mid ty x y ho A 0 cs hx hy (there_blk hb hz) hi h1 (h _ e1 e3 e2)
theorem wpList_store_blk {ops : Array Oper} {rest : List Oper} {op : Oper} {a : Act} {w : World} {Q : Exit → Act → World → Prop} (hgd : op.guard = none) (ty : TypeId) (x y : Operand) (ho : op.op = .store ty x y)
    (A : Nat) (cs : Array Value) (hx : a.eval x = .pointer (some ⟨A, 0, none⟩)) (hy : a.eval y = .agg cs) (z : Array Value) (T : TypeId) (hb : w.heap[A]? = some (.cells z T (0, 0))) (hz : z.size = cs.size)
    (hi : (P.info? ty).map (·.size) = some cs.size) (h1 : cs.all (·.oneCell') = true)
    (h : ∀ w', w'.heap[A]? = some (.cells cs T (0, 0)) → w.grownBy w' (some A) → w'.heap.size = w.heap.size → wpList P ops Q rest (a.put op.dst undef) w') : wpList P ops Q (op :: rest) a w :=
  wpList_plain hgd fun _ hK => wp_store_blk ty x y ho A cs hx hy z T hb hz hi h1 fun w' a1 a2 a3 => hK _ _ (h w' a1 a2 a3)
theorem exec_load_row {o : Oper} {a : Act} {w : World} (ty : TypeId) (x : Operand) (ho : o.op = .load ty x) (g : Nat) (hx : a.eval x = .pointer (some ⟨g, 0, none⟩)) (t : TypeId) (cs : Array Value) (fr : Nat × Nat) (d : TypeDesc) (hg : w.heap[g]? = some (.cells cs t fr))
    (hu : P.underlying ty = some d) (hd : (match d with | .struct _ | .array _ _ => true | _ => false) = true) (hi : (P.info? ty).map (·.size) = some cs.size) : (execOp a.eval o).run P w = .ok (.value (.agg cs)) w := by
  unfold execOp
  simp only [ho, hx, Instr.loadAt, Instr.sureAddr, Sem.run_bind, Sem.run_pure, Result.andThen_ok, run_loadVar_row w g t ty cs fr d hg hu hd hi]
/-- A load that is guarded, and wanted. -/
theorem wpList_load_rowg {ops : Array Oper} {rest : List Oper} {o : Oper} {a : Act} {w : World} {Q : Exit → Act → World → Prop} (hgd : Region.wanted o (yielded ops a.tmps) = true) (ty : TypeId) (x : Operand) (ho : o.op = .load ty x)
    (g : Nat) (hx : a.eval x = .pointer (some ⟨g, 0, none⟩)) (t : TypeId) (cs : Array Value) (fr : Nat × Nat) (d : TypeDesc) (hg : w.heap[g]? = some (.cells cs t fr))
    (hu : P.underlying ty = some d) (hd : (match d with | .struct _ | .array _ _ => true | _ => false) = true) (hi : (P.info? ty).map (·.size) = some cs.size)
    (h : wpList P ops Q rest (a.put o.dst (.agg cs)) w) : wpList P ops Q (o :: rest) a w :=
  wpList_step fun _ hK => by rw [if_pos hgd]; exact wp_load_row ty x ho g hx t cs fr d hg hu hd hi (hK _ _ h)
/-- Results: a struct that lies in memory, and a value. -/
theorem results_cell_tmp {fn : Func} {p q : Tmp} {ty : TypeId} (h : fn.results = #[.cell p ty, .tmp q]) (tmps : Array Value) (w : World) (g : Nat) (t : TypeId) (cs : Array Value) (fr : Nat × Nat) (d : TypeDesc)
    (hp : tmps.getD p undef = .pointer (some ⟨g, 0, none⟩)) (hg : w.heap[g]? = some (.cells cs t fr))
    (hu : P.underlying ty = some d) (hd : (match d with | .struct _ | .array _ _ => true | _ => false) = true) (hi : (P.info? ty).map (·.size) = some cs.size) :
    (results fn tmps).run P w = .ok (.tuple #[.agg cs, tmps.getD q undef]) w := by
  have hp' : tmps[p]?.getD undef = .pointer (some ⟨g, 0, none⟩) := by simpa using hp
  simp [results, h, hp', asAddr, run_loadVar_row w g t ty cs fr d hg hu hd hi]
end
/-- The beginning of a region's walk, the world behind the draw under a name. -/
theorem region_start {P : Program} {ops : Array Oper} {Q : Exit → Act → World → Prop} {S : World → Prop} {id : Nat} {a : Act} {w : World} (hm : P.follows .mixedOrders = true) (hS : S w.drew)
    (h : ∀ w1, Gr w w1 → S w1 → wpAnyH P .any ops Q S ops.size (Array.replicate ops.size false) a w1) : (Code.region id ops true).wp P Q a w :=
  wp_region_held_drew hm hS (fun h0 => h _ (Gr.dr Gr.rfl') h0)
/-- Behind a store into a block that is new. -/
theorem gr_new {w0 w w1 : World} {A : Nat} (h : Gr w0 w) (hg : w.grownBy w1 (some A)) (ha : w0.heap.size ≤ A) : Gr w0 w1 := h.grown hg h.size (fun k hk => by cases hk; exact ha)
theorem blk_far {w w1 : World} {A B : Nat} {o : Obj} (hg : w.grownBy w1 (some A)) (h : w.heap[B]? = some o) (hne : B ≠ A) : w1.heap[B]? = some o :=
  (hg.block B (blk_lt h) (fun e => hne (by injection e))).trans h
end Go.Proofs.Ytnneebdcaefgoaa
