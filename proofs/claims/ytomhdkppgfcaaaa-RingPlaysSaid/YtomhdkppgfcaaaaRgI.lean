/- The ring: Nodes, Epoch; the chapter's examples. -/
import Derived.Test.YtomhdkppgfcaaaaRgH
import Derived.Lib.SliceRun
namespace Go.Proofs.Ytomhdkppgfcaaaa
open Go.RowKit

set_option maxHeartbeats 1000000 in
theorem clone_calls (v : Value) (l : List Int) (w : World) (hv : rdRow w 1 v l.length (encI l)) (hk : l.length ≤ 1000000) :
    Calls Try.prog 33 #[v] w fun e w' => ∃ v', e = .returned v' ∧ w'.ownsRow w.heap.size 3 1 v' l.length (encI l) ∧ Gr w w' := by
  obtain ⟨hel, a, cap, rfl, hcap, hrd⟩ := hv
  have hnil := fun W => Lib.run_eql_slice_nil (P := Try.prog) W 27 3 a l.length cap 0 0 Try.underlying27
  obtain ⟨i0, hi, hz0, hz1, hz2⟩ := info_parts infoInt
  cases a with
  | none =>
    have hl0 : l.length = 0 := by
      rcases Nat.eq_zero_or_pos l.length with h | h
      · exact h
      · obtain ⟨b, o, h2, _⟩ := hrd h; cases h2
    have hl : l = [] := List.length_eq_zero_iff.1 hl0
    subst hl
    simp only [List.length_nil, Option.isNone_none] at hnil
    clear hrd
    go_enter Try.func33, Try.ntmps33
    go_wp2_with fail
    go_ret
    exact ⟨_, rfl, World.ownsRow_nil _ _ _ _, Gr.rfl'⟩
  | some ad =>
    have hnews : ∀ j u, (encI l)[j]? = some u → w.cell? (ad.add j) = some u := by
      intro j u hu
      have hpos : 0 < l.length := by
        rcases Nat.eq_zero_or_pos l.length with h | h
        · rw [List.length_eq_zero_iff.1 h] at hu; simp at hu
        · exact h
      obtain ⟨b, o, h2, hc⟩ := hrd hpos
      cases h2
      rw [Addr.add_mid]; exact hc j u hu
    have Hnews := Lib.hid hnews
    clear hrd hnews
    go_enter Try.func33, Try.ntmps33
    go_wp2_with (at_builtin; refine wpList_append_own _ rfl _ _ 27 rfl w.heap.size 3 i0 _ 1 8 Try.underlying27 hi hz0 hz1 hz2 rfl (by decide) _ 0 [] rfl (World.ownsRow_made w #[] 0 (Nat.le_refl _) (by decide) (by rfl)) ad l.length cap (encI l) rfl hel (fun j u h => keepc (Gr.al Gr.rfl' _) (Hnews.out j u h)) (by intro u hu; obtain ⟨x, _, hx⟩ := List.mem_flatMap.1 hu; simp only [List.mem_cons, List.not_mem_nil, or_false] at hx; subst hx; rfl) (by unfold maxLen; omega) (by omega) (by simp) ?_; intro v2 w2 hown2 hgrow2 _)
    go_ret
    exact ⟨_, rfl, own_cast hown2 (by omega) (by simp), gr_gb (by (repeat (first | exact Gr.rfl' | refine Gr.al ?_ _ | refine Gr.dr ?_ | refine Gr.drN ?_ | refine Gr.sc ?_ (by simp <;> omega) _ | refine Gr.tr ?_ (by assumption)))) hgrow2 (fun k hk => by cases hk; exact Nat.le_refl _)⟩
theorem nodes_calls (p : Nat) (ep : Int) (ns : List Int) (ps : List Pt) (w : World) (hr : RD w p ep ns ps) (hk : ns.length ≤ 1000000) :
    Calls Try.prog 16 #[.pointer (some ⟨p, 0, none⟩)] w fun e w' => ∃ v', e = .returned v' ∧ w'.ownsRow w.heap.size 3 1 v' ns.length (encI ns) ∧ Gr w w' := by
  obtain ⟨vn, vp, p0, p1, p2, hn, _⟩ := hr
  have hcl := clone_calls vn ns w hn hk
  clear hn
  go_enter Try.func16, Try.ntmps16
  go_wp2_with fail
  refine hcl.mono ?_
  rintro e w1 ⟨v1, rfl, hown1, hb⟩
  go_wp2_with fail
  go_ret
  exact ⟨_, rfl, hown1, hb⟩
theorem epoch_calls (p : Nat) (ep : Int) (ns : List Int) (ps : List Pt) (w : World) (hr : RD w p ep ns ps) :
    Calls Try.prog 23 #[.pointer (some ⟨p, 0, none⟩)] w fun e w' => e = .returned (.int .i64 ep) ∧ w = w' := by
  obtain ⟨vn, vp, p0, _, _, _, _⟩ := hr
  go_enter Try.func23, Try.ntmps23
  go_wp2_with fail
  go_ret
  exact ⟨rfl, rfl⟩
theorem IsPts.len {ns : List Int} {ps : List Pt} (h : IsPts ns ps) : ps.length = ns.length * 8 := by rw [h.1.length_eq, rawPts_len]
theorem IsPts.nil {ps : List Pt} (h : IsPts [] ps) : ps = [] := List.length_eq_zero_iff.1 (by rw [h.len]; rfl)
theorem fold_one {n most : Int} (hm : 1 ≤ most) : ∀ (l : List Int), (∀ x ∈ l, x = n) → l ≠ [] → l.foldl (prefStep most) [] = [n]
  | [], _, h => absurd rfl h
  | x :: r, hx, _ => by
    have e : x = n := hx x (List.mem_cons_self ..)
    subst e
    have : prefStep most [] x = [x] := by unfold prefStep; rw [if_neg (by simp; omega)]; rfl
    rw [List.foldl_cons, this]
    have hr : ∀ (r : List Int), (∀ y ∈ r, y = x) → r.foldl (prefStep most) [x] = [x] := by
      intro r
      induction r with
      | nil => intro _; rfl
      | cons y r ih =>
        intro hy
        rw [List.foldl_cons]
        have e : y = x := hy y (List.mem_cons_self ..)
        have : prefStep most [x] y = [x] := by unfold prefStep; rw [if_pos (.inr (by simp [e]))]
        rw [this]; exact ih fun z hz => hy z (List.mem_cons_of_mem _ hz)
    exact hr r fun y hy => hx y (List.mem_cons_of_mem _ hy)
theorem pref_one {n most h : Int} {ps : List Pt} (hp : IsPts [n] ps) (hm : 1 ≤ most) : prefer ps h most = [n] := by
  have hl := hp.len
  have hL := lo_le ps h
  unfold prefer prefTo
  have hrl := rot_len ps hL
  rw [List.take_of_length_le (by omega)]
  refine fold_one hm _ ?_ ?_
  · intro x hx
    obtain ⟨y, hy, rfl⟩ := List.mem_map.1 hx
    have hy2 : y ∈ ps := by
      unfold rot at hy
      rcases List.mem_append.1 hy with h1 | h1
      · exact List.mem_of_mem_drop h1
      · exact List.mem_of_mem_take h1
    have hy3 := hp.1.mem_iff.1 hy2
    simp [rawPts, ptsOf1, ptAt] at hy3
    obtain ⟨j, _, rfl⟩ := hy3
    rfl
  · intro e
    have := congrArg List.length e
    rw [List.length_map, hrl, hl] at this
    simp at this
theorem pref_none {most h : Int} : prefer [] h most = [] := by simp [prefer, prefTo, rot]
end Go.Proofs.Ytomhdkppgfcaaaa
