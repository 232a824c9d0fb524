/- The buffer: due. -/
import Derived.Test.YtnneebdcaefgoaaCaO
namespace Go.Proofs.Ytnneebdcaefgoaa
open Go.RowKit Go.Maps

/-- All that a record depends on is out. -/
def Due (out : List Int) (r : Rec) : Prop := r.q = atV out r.st + 1 ∧ Cov out r.d
instance (out : List Int) (r : Rec) : Decidable (Due out r) := by unfold Due; exact inferInstance
set_option maxRecDepth 100000 in
set_option maxHeartbeats 2000000 in
theorem due_calls (w : World) (p : Nat) (mb : Option Nat) (B : Buf) (h : BufAt w p mb B) (ho : B.out.length ≤ 1000000) (r : Rec) (d : Value) (hd : rdRow w 1 d r.d.length (encI r.d)) (hk : r.d.length ≤ 1000000) :
    Calls Try.prog 36 #[.pointer (some ⟨p, 0, none⟩), recV r d] w fun e w' => e = .returned (.bool (decide (Due B.out r))) ∧ Gr w w' := by
  obtain ⟨ov, _, c1, _, hr⟩ := bcells h
  have Hat := Lib.hid (fun W hg => at_calls ov B.out r.st W (hr.1.gr hg) ho)
  have Hcv := Lib.hid (fun W hg => covers_calls ov d B.out r.d W (hr.1.gr hg) (hd.gr hg) ho hk)
  have hann := atV_nn B.out r.st
  have hwr : IntKind.i64.wrap (atV B.out r.st + 1) = atV B.out r.st + 1 := by unfold topN at hann; simp [IntKind.wrap, IntKind.bits, IntKind.signed]; omega
  have hcs : ((r.q == atV B.out r.st + 1) = false ∧ decide (Due B.out r) = false) ∨ ((r.q == atV B.out r.st + 1) = true ∧ decide (Due B.out r) = decide (Cov B.out r.d)) := by
    by_cases e : r.q = atV B.out r.st + 1
    · right; exact ⟨by simp [e], by unfold Due; simp [e]⟩
    · left; exact ⟨by simp [e], decide_eq_false (fun h => e h.1)⟩
  have hA := recAt_new w r d 33
  have hb1 := keepc (Gr.al Gr.rfl' (.cells #[.int .i64 r.k, .string r.s, .int .i64 r.t, .int .i64 r.v, .int .i64 r.tier, .int .i64 r.c, .int .i64 r.st, .int .i64 r.q, d] 33)) c1
  have hg0 : Gr w (w.alloc (.cells #[.int .i64 r.k, .string r.s, .int .i64 r.t, .int .i64 r.v, .int .i64 r.tier, .int .i64 r.c, .int .i64 r.st, .int .i64 r.q, d] 33)) := Gr.al Gr.rfl' _
  have Hg0 := Lib.hid hg0; have HA := Lib.hid hA; have Hb1 := Lib.hid hb1
  clear h hr hd hann hg0 hA hb1 c1
  unfold recV
  rcases hcs with ⟨h1, h2⟩ | ⟨h1, h2⟩
  all_goals
    rw [h2]
    clear h2
    go_enter Try.func36, Try.ntmps36
    go_wp2_with fail
    generalize w.alloc (.cells #[.int .i64 r.k, .string r.s, .int .i64 r.t, .int .i64 r.v, .int .i64 r.tier, .int .i64 r.c, .int .i64 r.st, .int .i64 r.q, d] 33) = W0 at *
    have cb := fun g : GrW W0 => keepc g.h Hb1.out
    have cr := fun g : GrW W0 => HA.out.gr g.h
    have cw6 := fun g : GrW W0 => (cr g).2.2.2.2.2.2.1; have cw7 := fun g : GrW W0 => (cr g).2.2.2.2.2.2.2.1; have cw8 := fun g : GrW W0 => (cr g).2.2.2.2.2.2.2.2
    clear cr
    (refine region_gr (by kernel_rfl) (by kernel_rfl) ?_; (repeat (go_big_quiet_step ((first | (go_at_call 35; rename_i g9; refine (Hat.out _ (Hg0.out.tr g9.h)).mono ?_; rintro e w2 ⟨rfl, hb⟩; exact ⟨rfl, ⟨w2, g9.h.tr hb⟩, rfl⟩) | (go_at_call 55; rename_i g9; refine (Hcv.out _ (Hg0.out.tr g9.h)).mono ?_; rintro e w2 ⟨rfl, hb⟩; exact ⟨rfl, ⟨w2, g9.h.tr hb⟩, rfl⟩))))); refine wpQuiet_nil ?_; intro wq hw9; obtain ⟨g9, e9⟩ := hw9; have hwq := g9.h; rw [← e9] at hwq; clear e9 g9)
    have HG := Lib.hid (Hg0.out.tr hwq)
    clear cb cw6 cw7 cw8 hwq
    go_wp2_with fail
    go_ret
    exact ⟨rfl, HG.out⟩
end Go.Proofs.Ytnneebdcaefgoaa
