/- The law CausalOrder: whatever the input, the call returns true and leaves the input as it was. -/
import Derived.Test.YtnneebdcaefgoaaFr
import Derived.Test.YtnneebdcaefgoaaFrI
import Derived.Test.YtnneebdcaefgoaaCbR
namespace Go.Proofs.Ytnneebdcaefgoaa.causalOrder
open Go.ChangeShapes Go.WideShapes Go.ChangeAt Go.RowKit
set_option linter.unusedVariables false

set_option maxRecDepth 100000 in
theorem lifted (os : Os) (started : os.Started) (H : Type) (enc : TypeId × Value → H) :
    ReturnsInHanded {} Try.checked os 5 .any (Rows.causalOrderSpec.pre6 enc Try.prog Try.f5 Rows.causalOrderRow.domain false) (Rows.causalOrderSpec.post enc Try.prog Try.f5 false true false false) := by
  refine returnsInHanded_of_change (C := Try.checked) own' started (by kernel_rfl) Try.func5
    (ChangeSpec.witness6 (enc := enc) (C := Try.checked) false ⟨#[], #[.slice none 0 0, .slice none 0 0], []⟩ 8 (by kernel_rfl) (by kernel_rfl) (by kernel_rfl) (by kernel_rfl)) ?_
  intro W base args ds gs before hval0 hW hcnd _
  have hval : ∀ (j : Nat) t v, Try.f5.params[j]? = some t → args[j]? = some v → Value.okWide Try.prog W .any base t v := hval0
  have hW' := hW
  obtain ⟨p, q, hA0, hV, rfl, hfz, hnd⟩ := hW
  have hA : DataW.TrodAll enc Try.prog W 0 (fun _ => true) true Try.f5.params.toList args.toList ds p := hA0
  rw [Try.params5] at hA hval
  obtain ⟨v0, vs0, d0, ds0, p0, q0, hargs, rfl, rfl, h0, r0⟩ := trodAll_cons hA
  obtain ⟨v1, vs1, d1, ds1, p1, q1, rfl, rfl, rfl, h1, r1⟩ := trodAll_cons r0
  obtain ⟨rfl, rfl, rfl⟩ := trodAll_nil r1
  obtain rfl : args = #[v0, v1] := by cases args; simp_all
  obtain ⟨rfl, rfl⟩ := trodVars_none hV

  obtain ⟨ops, e0, b0, o0⟩ := open_ops (hval 0 22 v0 rfl rfl) h0
  obtain ⟨ord, e1, b1, o1⟩ := open_is (hval 1 31 v1 rfl rfl) h1
  refine (order_law v0 ops v1 ord W e0 o0 b0 e1 o1 b1).mono fun e W' ⟨he, hg⟩ => ?_
  subst he
  exact ⟨_, rfl, law_post hW' rfl (by kernel_rfl) rfl rfl rfl rfl hg⟩

theorem proved : Rows.CausalOrderSaid :=
  OpenClaim.holds_of_wide 5 Try.f5 rfl rfl rfl rfl rfl rfl rfl ⟨rfl, rfl, rfl, rfl, rfl⟩ rfl rfl rfl rfl rfl (by kernel_rfl) Try.func5 (by kernel_rfl)
    (of_decide_eq_true (by kernel_rfl)) (by unfold Func.isWrapper; rw [if_neg (of_decide_eq_false (by kernel_rfl))]; exact ⟨rfl, rfl⟩)
    (fun os started H enc _ => lifted os started H enc)
end Go.Proofs.Ytnneebdcaefgoaa.causalOrder
namespace Go.Proofs.Ytnneebdcaefgoaa
theorem causalOrderProved : Rows.CausalOrderSaid := causalOrder.proved
#print axioms causalOrderProved
end Go.Proofs.Ytnneebdcaefgoaa
