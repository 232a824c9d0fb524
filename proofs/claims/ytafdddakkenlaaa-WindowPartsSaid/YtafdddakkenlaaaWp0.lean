/- A region that draws its order, in a round: from the plain law of all orders. -/
import Derived.Test.YtafdddakkenlaaaWyc
namespace Go.Proofs.Ytafdddakkenlaaa
open Go.RowKit

theorem opIn_of {l n : Nat} {P : Program} {o : Oper} {a : Act} {w : World} {K : Act → World → Prop} {Q : Exit → Act → World → Prop} (hd : ∀ c : Call, o.op ≠ .defer c) (h : o.wp P a w K Q) : o.wpIn (Fence.wide.inRound l) n P a w K Q := by
  refine ⟨fun _ _ => trivial, ?_⟩
  rw [Oper.semAt_plain (Fence.wide.inRound l) _ _ hd]
  unfold Oper.wp at h
  revert h
  generalize (execOp a.eval o).run P w = r
  intro h
  match r, h with
  | .ok (.value v) w', h => exact h
  | .ok .skip w', h => exact h
  | .ok (.defer d) w', h => exact h
  | .ok (.enter f args) w', h => exact And.intro (fun e => absurd e Bool.false_ne_true) ((callsIn_wide.2 h).inRound l)
  | .ok (.row row args) w', h => exact And.intro (fun e => absurd e Bool.false_ne_true) (fun c cs _ => let ⟨v, w', r, s⟩ := h c cs; ⟨v, w', r, stepsIn_wide.2 s⟩)
  | .halt (.panic v) w', h => exact h
theorem wpAnyIn_of {l n : Nat} {P : Program} {md : Region.Mode} {ops : Array Oper} {Q : Exit → Act → World → Prop} (hlo : ¬ LetsOut Q) (hd : ∀ (i : Nat) (o : Oper), ops[i]? = some o → ∀ c : Call, o.op ≠ .defer c) :
    ∀ (fuel : Nat) (listed : Array Bool) (a : Act) (w : World), wpAny P md ops Q fuel listed a w → wpAnyIn (Fence.wide.inRound l) n P md ops Q fuel listed a w
  | 0, _, _, _, h => h
  | fuel + 1, listed, a, w, h => by
    refine ⟨h.1, fun i hi => ?_⟩
    have hh := h.2 i hi
    unfold wpOp at hh
    unfold wpOpIn
    split at hh
    · rename_i ho
      rw [ho]
      exact wpAnyIn_of hlo hd fuel _ _ _ hh
    · rename_i o ho
      rw [ho]
      simp only
      split at hh
      · rename_i hw
        rw [if_pos hw]
        rcases hh with hh | ⟨_, hh⟩
        · have := opIn_of (l := l) (n := n) (hd i o ho) hh
          exact Oper.wpIn_mono (fun a' w' h' => wpAnyIn_of hlo hd fuel _ _ _ h') this
        · exact absurd hh hlo
      · rename_i hw
        rw [if_neg hw]
        exact ⟨fun _ _ => trivial, wpAnyIn_of hlo hd fuel _ _ _ hh⟩
def notDefer : Op → Bool | .defer _ => false | _ => true
theorem regionIn_held {l n id : Nat} {P : Program} {ops : Array Oper} {Q : Exit → Act → World → Prop} {S : World → Prop} {a : Act} {w : World} (hm : P.follows .mixedOrders = true) (hlo : ¬ LetsOut Q) (hd : (ops.toList.all fun o => notDefer o.op) = true)
    (hS : S w.drew) (h : S w.drew → wpAnyH P .any ops Q S ops.size (Array.replicate ops.size false) a w.drew) : (Code.region id ops true).wpIn (Fence.wide.inRound l) n P Q a w :=
  wpIn_region_any hm (wpAnyIn_of hlo (fun i o ho c e => by
    have h1 := List.all_eq_true.1 hd o (by
      have := Array.getElem?_eq_some_iff.1 ho
      obtain ⟨h2, rfl⟩ := this
      exact Array.getElem_mem_toList h2)
    rw [e] at h1; cases h1) _ _ _ _ (wpAny_of_held _ _ _ _ (h hS)))
end Go.Proofs.Ytafdddakkenlaaa
