/- The stable sort at an own list of points. -/
import Derived.Test.YtpnpnjfflblkpaaStG
namespace Go.Proofs.Ytpnpnjfflblkpaa
open Go.Shelf Go.RowKit Go.Lib Go.Sort

theorem ins_none (a : Option Addr) (c : Nat) (cv : Value) (w : World) : Calls Try.prog 88 #[.slice a 0 c, .int .i64 0, .int .i64 0, cv] w fun e w' => e = .returned (.tuple #[]) ∧ w = w' := by
  go_enter Try.func88, Try.ntmps88
  go_wp2_with fail
  go_loop [8] (fun iv => iv = .int .i64 1) (fun _ => 0)
  case atStart => rfl
  case round =>
    obtain rfl := hrel
    go_wp2_with fail
    go_end0
    exact ⟨rfl, rfl⟩
theorem stable_none (a : Option Addr) (c : Nat) (cv : Value) (w : World) : Calls Try.prog 78 #[.slice a 0 c, .int .i64 0, cv] w fun e w' => e = .returned (.tuple #[]) ∧ w = w' := by
  go_enter Try.func78, Try.ntmps78
  go_wp2_with fail
  go_loop [7, 8] (fun av bv => av = .int .i64 0 ∧ bv = .int .i64 20) (fun _ _ => 0)
  case atStart => exact ⟨rfl, rfl⟩
  case round =>
    obtain ⟨rfl, rfl⟩ := hrel
    go_wp2_with (go_at_call 88; refine (ins_none _ _ _ _).mono ?_; rintro e w2 ⟨rfl, rfl⟩)
    go_loop [6] (fun sv => sv = .int .i64 20) (fun _ => 0)
    case atStart => rfl
    case round =>
      obtain rfl := hrel
      go_wp2_with fail
      go_end0
      exact ⟨rfl, rfl⟩
set_option maxHeartbeats 1000000 in
theorem stabp_calls (l : List Pt) (hl : l.length ≤ 1000000) (v : Value) (base : Nat) (w : World) (h : w.ownsRow base 26 6 v l.length (encP l)) :
    Calls Try.prog 60 #[v, plV] w fun e w' => e = .returned (.tuple #[]) ∧ ∃ T, SrtB T ∧ Stab l T ∧ w'.ownsRow base 26 6 v T.length (encP T) ∧ w.grownBy w' v.ownBlock := by
  obtain ⟨a, c, rfl⟩ : ∃ a c, v = .slice a l.length c := by obtain ⟨_, a, c, e, _⟩ := rdRow_of_own h; exact ⟨a, c, e⟩
  rcases Nat.eq_zero_or_pos l.length with h0 | h0
  · obtain rfl : l = [] := List.length_eq_zero_iff.1 h0
    have H := Lib.hid h
    clear h hl h0
    simp only [List.length_nil] at *
    go_enter Try.func60, Try.ntmps60
    go_wp2_with (go_at_call 78; refine (stable_none _ _ _ _).mono ?_; rintro e w2 ⟨rfl, rfl⟩)
    go_end0
    exact ⟨rfl, [], List.Pairwise.nil, Stab.rfl', H.out, ⟨rfl, rfl, rfl, Nat.le_refl _, fun _ _ _ => rfl⟩⟩
  · obtain ⟨g, cap, e1, hgb, hgw⟩ := own_at h h0
    obtain ⟨e2, _, e3⟩ := Value.slice.inj e1
    subst e2 e3
    have hR : RowK (fun x => ptC x) 6 w g 0 l.toArray := ⟨ptC_len6, ptC_one6, holds_of_own (fun x => ptC x) 6 ptC_len6 h, hgw⟩
    have ea : l.toArray.size = l.length := by simp
    have hc := stable_calls g 0 c l.toArray w hR (by omega) l ea.symm w ⟨l.toArray, by simp, SWK.start hR.hH⟩
    rw [ea] at hc
    have HC := Lib.hid hc
    have H := Lib.hid h
    clear hc h hl h0 hgb hgw hR e1 ea
    go_enter Try.func60, Try.ntmps60
    go_wp2_with (go_at_call 78; refine HC.out.mono ?_; rintro e w2 ⟨rfl, T, hT, hst, d', hd', n, os, rfl⟩; have HT := Lib.hid (And.intro hT hst); have HD := Lib.hid hd'; clear hT hst hd')
    go_end0
    have hdl : d'.size = l.length := by have := congrArg List.length HD.out; have := HT.out.2.len; simp at *; omega
    have ho := sort_own (fun x => ptC x) 6 ptC_len6 H.out n d' hdl os
    refine ⟨rfl, T, HT.out.1, HT.out.2, ?_, ho.2⟩
    have h1 := ho.1
    rw [HD.out] at h1
    rw [HT.out.2.len]
    exact h1
end Go.Proofs.Ytpnpnjfflblkpaa
