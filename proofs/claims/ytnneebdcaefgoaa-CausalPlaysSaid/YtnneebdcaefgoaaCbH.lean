/- A slice literal of one record. -/
import Derived.Test.YtnneebdcaefgoaaCbE
import Derived.Great.BuildSlice
namespace Go.Proofs.Ytnneebdcaefgoaa
open Go.RowKit Go.Maps

theorem rec_fill (r : Rec) (d : Value) (cells : Array Value) (hc : cells.size = 9) : Instr.fill (fun i => some (i * 9, 9)) cells [(0, recV r d)] = some (recC r d) := by
  have h := Great.fill_whole (s := 9) (by decide) [recV r d] cells (by intro v hv; rw [List.mem_singleton.1 hv]; rfl) (by simp [hc])
  simpa [recV, Value.cells, recC, List.zipIdx] using h
theorem infoRecs : (Try.prog.info? 33).map (fun i => (i.zero, i.size, i.bytes)) = some (some recZ, 9, 96) := by kernel_rfl
theorem recL_one (r : Rec) (a : Option Addr) (n c : Nat) : ∀ u ∈ recL (r, .slice a n c), u.oneCell' = true := by
  intro u hu
  have hu' : u ∈ [Value.int .i64 r.k, .string r.s, .int .i64 r.t, .int .i64 r.v, .int .i64 r.tier, .int .i64 r.c, .int .i64 r.st, .int .i64 r.q, .slice a n c] := hu
  simp only [List.mem_cons, List.not_mem_nil, or_false] at hu'
  rcases hu' with rfl | rfl | rfl | rfl | rfl | rfl | rfl | rfl | rfl <;> rfl
/-- []api.Record{r}. -/
theorem wpList_lit_rec {ops : Array Oper} {rest : List Oper} {o : Oper} {a : Act} {w : World} {Q : Exit → Act → World → Prop} (hg : o.guard = none) (x : Operand) (ho : o.op = .buildSlice 24 1 #[(0, x)])
    (r : Rec) (d : Value) (hx : a.eval x = recV r d)
    (h : wpList Try.prog ops Q rest (a.put o.dst (.slice (some ⟨w.heap.size, 0, none⟩) 1 1)) (w.alloc (.cells (recC r d) 33))) : wpList Try.prog ops Q (o :: rest) a w := by
  obtain ⟨i0, hi, hz0, hz1, hz2⟩ := info_parts infoRecs
  refine wpList_buildSlice hg 24 33 1 #[(0, x)] ho (recC r d) i0 recZ Try.underlying24 hi hz0 (by rw [hz1]; decide) (by rw [hz1]; decide) ?_ h
  rw [hz1]
  have e : (Array.map (fun x : Nat × Operand => match x with | (i, x) => (i, a.eval x)) #[(0, x)]).toList = [(0, recV r d)] := by simp [hx]
  refine (congrArg _ e).trans (rec_fill r d _ ?_)
  simp
end Go.Proofs.Ytnneebdcaefgoaa
