/- The law QuorumMeets: whatever the input, the call returns true and leaves the input as it was. -/
import Derived.Test.YtpnpnjfflblkpaaFr
import Derived.Test.YtpnpnjfflblkpaaFrH
import Derived.Test.YtpnpnjfflblkpaaFrQ
import Derived.Test.YtpnpnjfflblkpaaQoG
namespace Go.Proofs.Ytpnpnjfflblkpaa.quorumMeets
open Go.ChangeShapes Go.WideShapes Go.ChangeAt Go.RowKit
set_option linter.unusedVariables false

set_option maxRecDepth 100000 in
theorem lifted (os : Os) (started : os.Started) (H : Type) (enc : TypeId × Value → H) :
    ReturnsInHanded {} Try.checked os 3 .any (Rows.quorumMeetsSpec.pre6 enc Try.prog Try.f3 Rows.quorumMeetsRow.domain false) (Rows.quorumMeetsSpec.post enc Try.prog Try.f3 false true false false) := by
  refine returnsInHanded_of_change (C := Try.checked) own' started (by kernel_rfl) Try.func3
    (ChangeSpec.witness6 (enc := enc) (C := Try.checked) false ⟨#[], #[.agg #[.int .i64 0, .int .i64 0, .int .i64 0], .agg #[.string ⟨#[]⟩, .int .i64 0, .int .i64 0, .int .i64 0, .int .i64 0, .int .i64 0], .agg #[.slice none 0 0, .slice none 0 0]], []⟩ 8 (by kernel_rfl) (by kernel_rfl) (by kernel_rfl) (by kernel_rfl)) ?_
  intro W base args ds gs before hval0 hW hcnd _
  have hval : ∀ (j : Nat) t v, Try.f3.params[j]? = some t → args[j]? = some v → Value.okWide Try.prog W .any base t v := hval0
  have hW' := hW
  obtain ⟨p, q, hA0, hV, rfl, hfz, hnd⟩ := hW
  have hA : DataW.TrodAll enc Try.prog W 0 (fun _ => true) true Try.f3.params.toList args.toList ds p := hA0
  rw [Try.params3] at hA hval
  obtain ⟨v0, vs0, d0, ds0, p0, q0, hargs, rfl, rfl, h0, r0⟩ := trodAll_cons hA
  obtain ⟨v1, vs1, d1, ds1, p1, q1, rfl, rfl, rfl, h1, r1⟩ := trodAll_cons r0
  obtain ⟨v2, vs2, d2, ds2, p2, q2, rfl, rfl, rfl, h2, r2⟩ := trodAll_cons r1
  obtain ⟨rfl, rfl, rfl⟩ := trodAll_nil r2
  obtain rfl : args = #[v0, v1, v2] := by cases args; simp_all
  obtain ⟨rfl, rfl⟩ := trodVars_none hV

  obtain ⟨q0, q1, q2, rfl⟩ := open_int3 (hval 0 22 v0 rfl rfl) h0
  obtain ⟨x, rfl, _⟩ := open_point (hval 1 26 v1 rfl rfl) h1
  obtain ⟨u0, u1, rfl, ⟨A0, e0, _, i0⟩, ⟨A1, e1, _, i1⟩⟩ := open_two_is (hval 2 28 v2 rfl rfl) h2
  refine (meets_law q0 q1 q2 x u0 u1 A0 A1 W e0 e1 i0 i1).mono fun e W' ⟨he, hg⟩ => ?_
  subst he
  exact ⟨_, rfl, law_post hW' rfl (by kernel_rfl) rfl rfl rfl rfl hg⟩

theorem proved : Rows.QuorumMeetsSaid :=
  OpenClaim.holds_of_wide 3 Try.f3 rfl rfl rfl rfl rfl rfl rfl ⟨rfl, rfl, rfl, rfl, rfl⟩ rfl rfl rfl rfl rfl (by kernel_rfl) Try.func3 (by kernel_rfl)
    (of_decide_eq_true (by kernel_rfl)) (by unfold Func.isWrapper; rw [if_neg (of_decide_eq_false (by kernel_rfl))]; exact ⟨rfl, rfl⟩)
    (fun os started H enc _ => lifted os started H enc)
end Go.Proofs.Ytpnpnjfflblkpaa.quorumMeets
namespace Go.Proofs.Ytpnpnjfflblkpaa
theorem quorumMeetsProved : Rows.QuorumMeetsSaid := quorumMeets.proved
#print axioms quorumMeetsProved
end Go.Proofs.Ytpnpnjfflblkpaa
