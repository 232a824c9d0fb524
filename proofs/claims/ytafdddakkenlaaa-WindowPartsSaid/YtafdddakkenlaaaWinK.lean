import Derived.Test.YtafdddakkenlaaaWinJ
namespace Go.Proofs.Ytafdddakkenlaaa
open Go.RowKit Go.Sort
attribute [local go_sem ↓] field26_0 field26_1

set_option maxHeartbeats 1000000 in
theorem clone_calls (v : Value) (l : List Sp) (w : World) (hv : rdRow w 2 v l.length (encS l)) (hk : l.length ≤ 1000000) :
    Calls Try.prog 51 #[v] w fun e w' => ∃ v', e = .returned v' ∧ w'.ownsRow w.heap.size 26 2 v' l.length (encS l) ∧ Gr w w' := by
  obtain ⟨hel, a, cap, rfl, hcap, hrd⟩ := hv
  have hnil := fun W => Lib.run_eql_slice_nil (P := Try.prog) W 37 26 a l.length cap 0 0 Try.underlying37
  obtain ⟨i0, hi, hz0, hz1, hz2⟩ := info_parts info26
  cases a with
  | none =>
    have hl0 : l.length = 0 := by
      rcases Nat.eq_zero_or_pos l.length with h | h
      · exact h
      · obtain ⟨b, o, h2, _⟩ := hrd h; cases h2
    have hl : l = [] := List.length_eq_zero_iff.1 hl0
    subst hl
    simp only [List.length_nil, Option.isNone_none] at hnil
    clear hrd
    go_enter Try.func51, Try.ntmps51
    go_wp2_with fail
    go_ret
    exact ⟨_, rfl, World.ownsRow_nil _ _ _ _, Gr.rfl'⟩
  | some ad =>
    have hnews : ∀ j u, (encS l)[j]? = some u → w.cell? (ad.add j) = some u := by
      intro j u hu
      have hpos : 0 < l.length := by
        rcases Nat.eq_zero_or_pos l.length with h | h
        · rw [List.length_eq_zero_iff.1 h] at hu; simp [encS] at hu
        · exact h
      obtain ⟨b, o, h2, hc⟩ := hrd hpos
      cases h2
      rw [Addr.add_mid]; exact hc j u hu
    have Hnews := Lib.hid hnews
    clear hrd hnews
    go_enter Try.func51, Try.ntmps51
    go_wp2_with (at_builtin; refine wpList_append_own _ rfl _ _ 37 rfl w.heap.size 26 i0 _ 2 16 Try.underlying37 hi hz0 hz1 hz2 rfl (by decide) _ 0 [] rfl (World.ownsRow_made w #[] 0 (Nat.le_refl _) (by decide) (by rfl)) ad l.length cap (encS l) rfl hel (fun j u h => keepc (Gr.al Gr.rfl' _) (Hnews.out j u h)) (by intro u hu; obtain ⟨x, _, hx⟩ := List.mem_flatMap.1 hu; simp only [List.mem_cons, List.not_mem_nil, or_false] at hx; rcases hx with rfl | rfl <;> rfl) (by unfold maxLen; omega) (by omega) (by simp) ?_; intro v2 w2 hown2 hgrow2 _)
    go_ret
    exact ⟨_, rfl, own_cast hown2 (by omega) (by simp), gr_gb (by (repeat (first | exact Gr.rfl' | refine Gr.al ?_ _ | refine Gr.dr ?_ | refine Gr.drN ?_ | refine Gr.sc ?_ (by simp <;> omega) _ | refine Gr.tr ?_ (by assumption)))) hgrow2 (fun k hk => by cases hk; exact Nat.le_refl _)⟩

set_option maxHeartbeats 1000000 in
theorem spans_set {pb : Nat} {l : List Sp} {w : World} (h : isSet w pb l) (hk : l.length ≤ 1000000) :
    Calls Try.prog 39 #[.pointer (some ⟨pb, 0, none⟩)] w fun e w' => ∃ v', e = .returned v' ∧ w'.ownsRow w.heap.size 26 2 v' l.length (encS l) ∧ Gr w w' := by
  obtain ⟨a, cap, hpc, hr⟩ := h.cell
  clear h
  go_enter Try.func39, Try.ntmps39
  go_wp2_with (go_at_call 51; refine (clone_calls _ l _ hr hk).mono ?_; rintro e w1 ⟨v1, rfl, hown1, hb⟩)
  go_ret
  exact ⟨_, rfl, hown1, hb⟩
set_option maxHeartbeats 1000000 in
theorem spans_nil {w : World} :
    Calls Try.prog 39 #[.pointer none] w fun e w' => e = .returned (.slice none 0 0) ∧ w = w' := by
  go_enter Try.func39, Try.ntmps39
  go_wp2_with fail
  go_ret
  exact ⟨rfl, rfl⟩
set_option maxHeartbeats 1000000 in
theorem size_set {pb : Nat} {l : List Sp} {w : World} (h : isSet w pb l) (hk : okS l) :
    Calls Try.prog 40 #[.pointer (some ⟨pb, 0, none⟩)] w fun e w' => e = .returned (.int .i64 (szS l)) ∧ Gr w w' := by
  obtain ⟨a, cap, hpc, hr⟩ := h.cell
  clear h
  go_enter Try.func40, Try.ntmps40
  go_wp2_with (go_at_call 47; refine (size_calls _ l _ hr hk).mono ?_; rintro e w1 ⟨rfl, hb⟩)
  go_ret
  exact ⟨rfl, hb⟩
set_option maxHeartbeats 1000000 in
theorem size_nil {w : World} :
    Calls Try.prog 40 #[.pointer none] w fun e w' => e = .returned (.int .i64 0) ∧ w = w' := by
  go_enter Try.func40, Try.ntmps40
  go_wp2_with fail
  go_ret
  exact ⟨rfl, rfl⟩

def hasB (t : Int) (x : Sp) : Bool := decide (x.1 ≤ t) && decide (t < x.2)
set_option maxHeartbeats 1000000 in
theorem has1_calls (a b t : Int) (tb : Nat) (w : World) (h : w.cell? ⟨tb, 0, none⟩ = some (.int .i64 t)) :
    Calls Try.prog 53 #[.agg #[.int .i64 a, .int .i64 b], .pointer (some ⟨tb, 0, none⟩)] w fun e w' => e = .returned (.bool (hasB t (a, b))) ∧ Gr w w' := by
  have h2 := fun x => keepc (Gr.al Gr.rfl' x) h
  have n0 := World.new_ne w _ h
  by_cases h1 : a ≤ t
  · have Hr := Lib.hid (show decide (t < b) = hasB t (a, b) by simp [hasB, h1])
    go_enter Try.func53, Try.ntmps53
    go_wp2
    go_ret; exact ⟨ret_b rfl Hr.out, by (repeat (first | exact Gr.rfl' | refine Gr.al ?_ _ | refine Gr.dr ?_ | refine Gr.drN ?_ | refine Gr.sc ?_ (by simp <;> omega) _ | refine Gr.tr ?_ (by assumption)))⟩
  · have Hr := Lib.hid (show false = hasB t (a, b) by simp [hasB, h1])
    go_enter Try.func53, Try.ntmps53
    go_wp2
    go_ret; exact ⟨ret_b rfl Hr.out, by (repeat (first | exact Gr.rfl' | refine Gr.al ?_ _ | refine Gr.dr ?_ | refine Gr.drN ?_ | refine Gr.sc ?_ (by simp <;> omega) _ | refine Gr.tr ?_ (by assumption)))⟩

set_option maxHeartbeats 1000000 in
theorem index_calls (v : Value) (l : List Sp) (t : Int) (tb : Nat) (w : World) (hv : rdRow w 2 v l.length (encS l)) (hk : l.length ≤ 1000000) (h : w.cell? ⟨tb, 0, none⟩ = some (.int .i64 t)) :
    Calls Try.prog 56 #[v, .func (.func 53) #[] #[.pointer (some ⟨tb, 0, none⟩)]] w fun e w' => ∃ r : Int, e = .returned (.int .i64 r) ∧ decide (0 ≤ r) = l.any (hasB t) ∧ Gr w w' := by
  obtain ⟨_, a, cap, rfl, hcap, hrd⟩ := hv
  go_enter Try.func56, Try.ntmps56
  go_wp2_with fail
  go_loopw [8] (fun i wr => ∃ k : Nat, k ≤ l.length ∧ i = .int .i64 k ∧ (l.take k).any (hasB t) = false ∧ Gr w wr) (fun i _ => l.length - (intOf i).toNat)
  case atStart => exact ⟨0, Nat.zero_le _, rfl, by simp, Gr.rfl'⟩
  case round =>
    obtain ⟨k, hkl, rfl, hno, hg⟩ := hrel
    have ht := keepc hg h
    have Hno := Lib.hid hno; clear hno
    by_cases hlt : k < l.length
    · obtain ⟨b, o, rfl, hc⟩ := hrd (by omega)
      have c0 := keepc hg (hc _ _ (encS_get l k hlt).1)
      have c1 := keepc hg (hc _ _ (encS_get l k hlt).2)
      rw [← Nat.add_assoc] at c1
      clear hc hrd
      have hx : (l.take (k + 1)).any (hasB t) = hasB t l[k] := by rw [List.take_succ_eq_append_getElem hlt, List.any_append, Hno.out]; simp
      have hany : hasB t l[k] = true → l.any (hasB t) = true := fun hh => List.any_eq_true.2 ⟨l[k], List.getElem_mem hlt, hh⟩
      generalize l[k] = x at c0 c1 hx hany
      obtain ⟨p, q⟩ := x
      have Hx := Lib.hid hx; clear hx
      have Hany := Lib.hid hany; clear hany
      cases hh : hasB t (p, q)
      · go_wp2_with (go_at_call 53; refine (has1_calls _ _ t tb _ ht).mono ?_; rintro e w1 ⟨rfl, hb⟩)
        go_roundw
        case rel => exact ⟨k + 1, by omega, by go_num, by rw [Hx.out, hh], by (repeat (first | exact Gr.rfl' | refine Gr.al ?_ _ | refine Gr.dr ?_ | refine Gr.drN ?_ | refine Gr.sc ?_ (by simp <;> omega) _ | refine Gr.tr ?_ (by assumption)))⟩
        case measure => simp [intOf]; omega
      · go_wp2_with (go_at_call 53; refine (has1_calls _ _ t tb _ ht).mono ?_; rintro e w1 ⟨rfl, hb⟩)
        go_ret
        exact ⟨k, rfl, by rw [Hany.out hh]; simp, by (repeat (first | exact Gr.rfl' | refine Gr.al ?_ _ | refine Gr.dr ?_ | refine Gr.drN ?_ | refine Gr.sc ?_ (by simp <;> omega) _ | refine Gr.tr ?_ (by assumption)))⟩
    · obtain rfl : k = l.length := by omega
      clear hrd
      go_wp2
      go_ret
      exact ⟨-1, rfl, by have := Hno.out; rw [List.take_length] at this; rw [this]; rfl, by (repeat (first | exact Gr.rfl' | refine Gr.al ?_ _ | refine Gr.dr ?_ | refine Gr.drN ?_ | refine Gr.sc ?_ (by simp <;> omega) _ | refine Gr.tr ?_ (by assumption)))⟩

set_option maxHeartbeats 1000000 in
theorem contains_calls (v : Value) (l : List Sp) (t : Int) (tb : Nat) (w : World) (hv : rdRow w 2 v l.length (encS l)) (hk : l.length ≤ 1000000) (h : w.cell? ⟨tb, 0, none⟩ = some (.int .i64 t)) :
    Calls Try.prog 52 #[v, .func (.func 53) #[] #[.pointer (some ⟨tb, 0, none⟩)]] w fun e w' => e = .returned (.bool (l.any (hasB t))) ∧ Gr w w' := by
  have Hcal := Lib.hid (index_calls v l t tb w hv hk h)
  obtain ⟨a, c, rfl⟩ := rdRow_slice hv
  go_enter Try.func52, Try.ntmps52
  go_wp2_with (go_at_call 56; refine (Hcal.out).mono ?_; rintro e w1 ⟨r, rfl, hr, hb⟩; have Hr := Lib.hid hr; clear hr)
  go_ret
  exact ⟨ret_b rfl Hr.out, hb⟩

set_option maxHeartbeats 1000000 in
theorem has_set {pb : Nat} {l : List Sp} {t : Int} {w : World} (h : isSet w pb l) (hk : l.length ≤ 1000000) :
    Calls Try.prog 41 #[.pointer (some ⟨pb, 0, none⟩), .int .i64 t] w fun e w' => e = .returned (.bool (l.any (hasB t))) ∧ Gr w w' := by
  obtain ⟨a, cap, hpc, hr⟩ := (h.gr (Gr.al Gr.rfl' (.cells #[.int .i64 t] 3))).cell
  have hcal := contains_calls _ l t w.heap.size _ hr hk (by simp)
  have Hcal := Lib.hid hcal
  clear hcal h hr
  go_enter Try.func41, Try.ntmps41
  go_wp2_with (go_at_call 52; refine (Hcal.out).mono ?_; rintro e w1 ⟨rfl, hb⟩)
  go_ret
  exact ⟨rfl, by (repeat (first | exact Gr.rfl' | refine Gr.al ?_ _ | refine Gr.dr ?_ | refine Gr.drN ?_ | refine Gr.sc ?_ (by simp <;> omega) _ | refine Gr.tr ?_ (by assumption)))⟩
set_option maxHeartbeats 1000000 in
theorem has_nil {t : Int} {w : World} :
    Calls Try.prog 41 #[.pointer none, .int .i64 t] w fun e w' => e = .returned (.bool false) ∧ Gr w w' := by
  go_enter Try.func41, Try.ntmps41
  go_wp2_with fail
  go_ret
  exact ⟨rfl, by (repeat (first | exact Gr.rfl' | refine Gr.al ?_ _ | refine Gr.dr ?_ | refine Gr.drN ?_ | refine Gr.sc ?_ (by simp <;> omega) _ | refine Gr.tr ?_ (by assumption)))⟩
end Go.Proofs.Ytafdddakkenlaaa
