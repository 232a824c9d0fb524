import Derived.Test.YtafdddakkenlaaaWinH
import Derived.Deep.DeepCutAuto
import Derived.Deep.DrawnRows
import Derived.Deep.DeepMust
namespace Go.Proofs.Ytafdddakkenlaaa
open Go.RowKit Go.Sort
attribute [local go_sem] max2_mx min2_mn max_two' min_two'
attribute [local go_sem ↓] field26_0 field26_1

def mgStep (out : List Sp) (s : Sp) : List Sp :=
  match out.getLast? with
  | some x => if x.2 = s.1 then out.dropLast ++ [(x.1, s.2)] else out ++ [s]
  | none => [s]
def mergeS (l : List Sp) : List Sp := l.foldl mgStep []

theorem mgStep_cat (M : List Sp) (a b p q : Int) : mgStep (M.concat (a, b)) (p, q) = if b = p then M ++ [(a, q)] else M ++ [(a, b)] ++ [(p, q)] := by
  unfold mgStep; rw [List.concat_eq_append, List.getLast?_concat]
  simp only [List.dropLast_concat]
theorem mgStep_len (M : List Sp) (s : Sp) : (mgStep M s).length ≤ M.length + 1 := by
  unfold mgStep; split
  · split
    · simp
    · simp
  · simp
theorem mergeS_len (l : List Sp) : (mergeS l).length ≤ l.length := by
  have h : ∀ (l M : List Sp), (l.foldl mgStep M).length ≤ M.length + l.length := by
    intro l
    induction l with
    | nil => intro M; simp
    | cons x r ih =>
      intro M
      have := ih (mgStep M x)
      have := mgStep_len M x
      simp only [List.foldl_cons, List.length_cons]; omega
  have := h l []
  simpa [mergeS] using this

def vS (x : Sp) : Prop := 0 ≤ x.1 ∧ x.1 ≤ x.2 ∧ x.2 ≤ 1099511627777
theorem vS_woS {s x : Sp} (hs : vS s) (hx : vS x) : ∀ y ∈ woS s x, vS y := by
  unfold vS at *
  intro y hy
  unfold woS at hy
  split at hy
  · simp at hy; subst hy; exact hx
  · rw [List.mem_append] at hy
    rcases hy with hy | hy
    · split at hy
      · simp at hy; subst hy; simp; omega
      · simp at hy
    · split at hy
      · simp at hy; subst hy; simp; omega
      · simp at hy
theorem vS_withoutS {s : Sp} {l : List Sp} (hs : vS s) (hl : ∀ x ∈ l, vS x) : ∀ y ∈ withoutS l s, vS y := by
  intro y hy
  obtain ⟨x, hx, hy⟩ := List.mem_flatMap.1 hy
  exact vS_woS hs (hl x hx) y hy
theorem vS_mgStep {M : List Sp} {s : Sp} (hs : vS s) (hM : ∀ x ∈ M, vS x) : ∀ y ∈ mgStep M s, vS y := by
  intro y hy
  unfold mgStep at hy
  split at hy
  · rename_i x hx
    have hxm := List.mem_of_getLast? hx
    split at hy
    · rename_i he
      rw [List.mem_append] at hy
      rcases hy with hy | hy
      · exact hM y (List.dropLast_subset _ hy)
      · simp at hy; subst hy
        have := hM x hxm
        unfold vS at *; simp; omega
    · rw [List.mem_append] at hy
      rcases hy with hy | hy
      · exact hM y hy
      · simp at hy; subst hy; exact hs
  · simp at hy; subst hy; exact hs
theorem vS_mergeS {l : List Sp} (hl : ∀ x ∈ l, vS x) : ∀ y ∈ mergeS l, vS y := by
  have h : ∀ (l M : List Sp), (∀ x ∈ l, vS x) → (∀ x ∈ M, vS x) → ∀ y ∈ l.foldl mgStep M, vS y := by
    intro l
    induction l with
    | nil => intro M _ hM; exact hM
    | cons x r ih => intro M h1 h2; exact ih _ (fun z hz => h1 z (by simp [hz])) (vS_mgStep (h1 x (by simp)) h2)
  exact h l [] hl (by simp)

set_option maxRecDepth 100000 in
set_option maxHeartbeats 1000000 in
theorem add_calls (pb : Nat) (v : Value) (l : List Sp) (c d : Int) (w : World) (hp : w.heap[pb]? = some (.cells #[v] 62 (0, 0))) (hv : rdRow w 2 v l.length (encS l)) (hk : l.length ≤ 100000)
    (hl : ∀ x ∈ l, 0 ≤ x.1 ∧ x.1 ≤ x.2 ∧ x.2 ≤ 1099511627777) (hs : wCheck (c, d) = 0) (hne : c ≠ d) :
    Calls Try.prog 37 #[.pointer (some ⟨pb, 0, none⟩), .agg #[.int .i64 c, .int .i64 d]] w fun e w' => ∃ (l' : List Sp) (v' : Value), l'.Perm (withoutS l (c, d) ++ [(c, d)]) ∧ sortedS l' ∧ e = .returned (.bool (decide (szS l < szS (mergeS l')))) ∧
      w'.heap[pb]? = some (.cells #[v'] 62 (0, 0)) ∧ w'.ownsRow 0 26 2 v' (mergeS l').length (encS (mergeS l')) ∧ w.grownBy w' (some pb) := by
  have hcd := wCheck_0.1 hs
  have hs1 : (wCheck (c, d) != 0) = false := by simp [hs]
  have hs2 : (c == d) = false := by simp [hne]
  have Hs := Lib.hid hs
  clear hs hne
  have hpl := (Array.getElem?_eq_some_iff.1 hp).1
  have hpc : w.cell? ⟨pb, 0, none⟩ = some v := by rw [cell_of_row w pb 0 #[v] _ _ hp]; rfl
  obtain ⟨i0, hi, hz0, hz1, hz2⟩ := info_parts info26
  have hwl := withoutS_len l (c, d)
  obtain ⟨l2, hl2⟩ : ∃ l2, l2 = withoutS l (c, d) ++ [(c, d)] := ⟨_, rfl⟩
  have hlen : l2.length = (withoutS l (c, d)).length + 1 := by rw [hl2]; simp
  have Hlen := Lib.hid hlen
  have henc : encS l2 = encS (withoutS l (c, d)) ++ [.int .i64 c, .int .i64 d] := by rw [hl2, encS_append]; rfl
  have Henc := Lib.hid henc
  have hll2 : l2.length ≤ 300000 := by omega
  have Hl2 := Lib.hid hl2
  have hv2 : ∀ x ∈ l2, vS x := by
    intro x hx; rw [hl2, List.mem_append] at hx
    rcases hx with hx | hx
    · exact vS_withoutS (s := (c, d)) hcd hl x hx
    · simp at hx; subst hx; exact hcd
  have Hv2 := Lib.hid hv2
  clear hl2 hlen henc hv2
  have Hp := Lib.hid hp; clear hp
  have hwc := fun W h1 h2 => without_calls pb v l c d W h1 h2 hk
  have Hwc := Lib.hid hwc; clear hwc
  go_enter Try.func37, Try.ntmps37
  go_upto_region 3 with (go_at_call 18; refine (check_calls _ _ _).mono ?_; rintro e w1 ⟨rfl, hb⟩; obtain ⟨hc, hf⟩ := bcell hb; have hz := hb.size; (try simp at hz); have z0 : w.heap.size < w1.heap.size := (by omega))
  have hG1 : Gr w w1 := by (repeat (first | exact Gr.rfl' | refine Gr.al ?_ _ | refine Gr.dr ?_ | refine Gr.drN ?_ | refine Gr.sc ?_ (by simp <;> omega) _ | refine Gr.tr ?_ (by assumption)))
  have hG1s := hG1.size
  have cA := hc w.heap.size 0 (by simp)
  have cB := hc w.heap.size 1 (by simp)
  simp at cA cB
  clear hc hf
  go_cut [5] (fun v5 wx => ∃ g cap, v5 = .slice (some ⟨g, 0, none⟩) l2.length cap ∧ wx.ownsRow w.heap.size 26 2 (.slice (some ⟨g, 0, none⟩) l2.length cap) l2.length (encS l2) ∧ g < wx.heap.size ∧ Gr w wx)
  case first =>
--[[
    go_region_held3 (fun w' => w'.cell? ⟨w.heap.size, 0, none⟩ = some (.int .i64 c) ∧ w'.cell? ⟨w.heap.size, 1, none⟩ = some (.int .i64 d)) (first | (go_keep; done) | ((with_reducible (repeat (first | assumption | refine And.intro ?_ ?_ | refine cv_dr ?_ | refine cv_sc _ _ ?_ | (rw [World.cell?_drew]; assumption) | (rw [World.frozen?_drew]; assumption) | (rw [World.frozen?_setCell]) | (refine cv_gr hb ?_; first | assumption | (refine cv_dr ?_; assumption)) | (refine keepc hb ?_; first | assumption | (rw [World.cell?_drew]; assumption) | (refine keepc (Gr.al Gr.rfl' _) ?_; first | assumption | (rw [World.cell?_drew]; assumption))) | (refine keepf' hb ?_ ?_ <;> first | assumption | (refine cv_dr ?_; assumption) | (rw [World.frozen?_drew]; assumption)) | (refine cell_grown' hgrow3 hne3 ?_; first | assumption | (refine keepc (Gr.al Gr.rfl' _) ?_; assumption)) | (refine keepc (Gr.al Gr.rfl' _) ?_; first | assumption | (rw [World.cell?_drew]; assumption)) | (rw [World.cell?_setCell_other _ _ _ _ (by simp)])))); done) | (refine ⟨keepc hb ?_, keepc hb ?_⟩ <;> (simp [*]; done)) | (refine ⟨cell_grown' hgrow3 hne3 ?_, cell_grown' hgrow3 hne3 ?_⟩ <;> (simp [*]; done)))
      ((first
        | (go_at_call 48; refine (Hwc.out _ (keepc (by (repeat (first | exact Gr.rfl' | refine Gr.al ?_ _ | refine Gr.dr ?_ | refine Gr.drN ?_ | refine Gr.sc ?_ (by simp <;> omega) _ | refine Gr.tr ?_ (by assumption)))) hpc) (rdRow.gr hv (by (repeat (first | exact Gr.rfl' | refine Gr.al ?_ _ | refine Gr.dr ?_ | refine Gr.drN ?_ | refine Gr.sc ?_ (by simp <;> omega) _ | refine Gr.tr ?_ (by assumption)))))).mono ?_; rintro e w2 ⟨v2, rfl, hown2, hb⟩; have hne3 : ∀ k, v2.ownBlock = some k → k ≠ w.heap.size := fun k hk => by { have := (hown2.lt k hk).1; simp at this; omega }; have hr3 : ∀ k, v2.ownBlock = some k → w.heap.size ≤ k := fun k hk => by { have := (hown2.lt k hk).1; simp at this; omega })
        | (refine step_append_lies _ (by rfl) _ _ 37 (by rfl) w.heap.size 26 i0 (.agg #[.int .i64 0, .int .i64 0]) 2 16 Try.underlying37 hi hz0 hz1 hz2 rfl (by decide) _ (withoutS l (c, d)).length (encS (withoutS l (c, d))) (by rfl) (own_mono (hown2.alloc _) (by simp; omega)) ⟨w2.heap.size, 0, none⟩ 1 1 [.int .i64 c, .int .i64 d] (by rfl) rfl (World.news_of_block (heap_alloc_new w2 _)) (by intro u hu; simp only [List.mem_cons, List.not_mem_nil, or_false] at hu; rcases hu with rfl | rfl <;> rfl) (by decide) (by unfold maxLen; omega) (by omega) (by have := hb.size; simp at *; omega) _ rfl ?_; intro g cap w3 hown3 hgrow3 hat3 hlt3)
        | (refine step_append_lies _ (by rfl) _ _ 37 (by rfl) w.heap.size 26 i0 (.agg #[.int .i64 0, .int .i64 0]) 2 16 Try.underlying37 hi hz0 hz1 hz2 rfl (by decide) _ (withoutS l (c, d)).length (encS (withoutS l (c, d))) (by rfl) (own_mono hown2 (by simp; omega)) ⟨w1.heap.size, 0, none⟩ 1 1 [.int .i64 c, .int .i64 d] (by rfl) rfl (World.news_of_block ((hb.block w1.heap.size (by simp)).trans (heap_alloc_new w1 _))) (by intro u hu; simp only [List.mem_cons, List.not_mem_nil, or_false] at hu; rcases hu with rfl | rfl <;> rfl) (by decide) (by unfold maxLen; omega) (by omega) (by have := hb.size; simp at *; omega) _ rfl ?_; intro g cap w3 hown3 hgrow3 hat3 hlt3)))
    all_goals
      go_wp2_with fail
      go_meet
      exact ⟨g, cap, by rw [Hlen.out], own_cast (by rw [Hlen.out]; exact hown3) Hlen.out.symm Henc.out.symm, hlt3, gr_gb (by (repeat (first | exact Gr.rfl' | refine Gr.al ?_ _ | refine Gr.dr ?_ | refine Gr.drN ?_ | refine Gr.sc ?_ (by simp <;> omega) _ | refine Gr.tr ?_ (by assumption)))) hgrow3 hr3⟩
--]]
  case rest =>
    obtain ⟨g, cap, rfl, hown, hgw, hG⟩ := hcut
    clear hb hz z0 cA cB hG1 hG1s
    have hbs : ∀ x ∈ l2, 0 ≤ x.1 ∧ x.1 ≤ 1099511627777 := fun x hx => by have := Hv2.out x hx; unfold vS at this; omega
    have hsort := fun W h hg => sort_calls l2 hbs (by omega) g cap w.heap.size W h hg
    have Hsort := Lib.hid hsort; clear hsort hbs
    go_wp2_with (go_at_call 49; refine (Hsort.out _ hown hgw).mono ?_; rintro e w2 ⟨rfl, l', hperm, hsorted, hown2, hgrow2⟩)
    have hlen' : l'.length = l2.length := hperm.length_eq
    have hG2 : Gr w w2 := gr_gb hG hgrow2 (fun k hk => by cases hk; exact (hown.lt g rfl).1)
    have hG2s := hG2.size
    go_loopw [6, 35] (fun u i wr => ∃ k : Nat, k ≤ l'.length ∧ i = .int .i64 k ∧ wr.ownsRow w2.heap.size 26 2 u (mergeS (l'.take k)).length (encS (mergeS (l'.take k))) ∧ Gr w2 wr) (fun _ i _ => l2.length - (intOf i).toNat)
    case atStart => exact ⟨0, Nat.zero_le _, rfl, by simpa [mergeS, encS] using World.ownsRow_nil _ _ _ _, Gr.rfl'⟩
    case round =>
      obtain ⟨k, hkl, rfl, hownr, hg⟩ := hrel
      by_cases hlt : k < l'.length
      · have c0 : wr.cell? ⟨g, k * 2, none⟩ = _ := keepc hg ((hown2.cellAt (k * 2) (by omega)).trans (encS_get l' k hlt).1)
        have c1 : wr.cell? ⟨g, k * 2 + 1, none⟩ = _ := keepc hg ((hown2.cellAt (k * 2 + 1) (by omega)).trans (encS_get l' k hlt).2)
        have ht : mergeS (l'.take (k + 1)) = mgStep (mergeS (l'.take k)) l'[k] := by unfold mergeS; rw [List.take_succ_eq_append_getElem hlt, List.foldl_append]; rfl
        have hml := mergeS_len (l'.take k)
        have hml2 : (l'.take k).length ≤ k := List.length_take_le _ _
        generalize hM : mergeS (l'.take k) = M at *
        clear hM
        generalize l'[k] = x at c0 c1 ht
        obtain ⟨p, q⟩ := x
        have Ht := Lib.hid ht; clear ht
        have Hlen' := Lib.hid hlen'
        have hgs := hg.size
        have hlt2 : k < l2.length := by omega
        clear hlen'
        rcases List.eq_nil_or_concat M with hM | ⟨M0, y, hM⟩
        · subst hM
          have hr3 := fun k hk => (hownr.lt k hk).1
          obtain ⟨a, c1, hu⟩ := own_slice hownr
          subst hu
          go_wp2_with fail
          go_quiet (fail)
          go_wp2_with (at_builtin; refine wpList_append_own _ rfl _ _ 37 rfl w2.heap.size 26 i0 _ 2 16 Try.underlying37 hi hz0 hz1 hz2 rfl (by decide) _ _ _ rfl ((own_drN (hownr.alloc _)).alloc _) ⟨wr.heap.size + 1, 0, none⟩ 1 1 [.int .i64 p, .int .i64 q] rfl rfl (news_at (wr.heap.size + 1) (by simp)) (by intro u hu; simp only [List.mem_cons, List.not_mem_nil, or_false] at hu; rcases hu with rfl | rfl <;> rfl) (by unfold maxLen; omega) (by omega) (by simp; omega) ?_; intro v3 w3 hown3 hgrow3 _)
          go_roundw
          case rel => exact ⟨k + 1, by omega, by go_num, own_cast hown3 (by rw [Ht.out]; rfl) (by rw [Ht.out]; rfl), gr_gb (by (repeat (first | exact Gr.rfl' | refine Gr.al ?_ _ | refine Gr.dr ?_ | refine Gr.drN ?_ | refine Gr.sc ?_ (by simp <;> omega) _ | refine Gr.tr ?_ (by assumption)))) hgrow3 hr3⟩
          case measure => simp [intOf]; omega
        · obtain ⟨y1, y2⟩ := y
          obtain ⟨m, hm⟩ : ∃ m, M0.length = m := ⟨_, rfl⟩
          have hown' : wr.ownsRow w2.heap.size 26 2 _ (m + 1) (encS M0 ++ [.int .i64 y1, .int .i64 y2]) := own_cast hownr (by rw [hM]; simp [hm]) (by rw [hM, List.concat_eq_append, encS_append]; rfl)
          have hmm : m + 1 ≤ 300000 := by rw [hM] at hml; simp at hml; omega
          obtain ⟨g2, c2, hu, hg2b, hg2⟩ := own_at hown' (by omega)
          subst hu
          have hel : (encS M0).length = m * 2 := by rw [encS_len, hm]
          have cY := fun x => keepc (Gr.al Gr.rfl' x) ((hown'.cellAt (m * 2 + 1) (by omega)).trans (show (encS M0 ++ [Value.int .i64 y1, .int .i64 y2])[m * 2 + 1]? = some (.int .i64 y2) by rw [List.getElem?_append_right (by omega), hel]; simp))
          have fY : ∀ x, (wr.alloc x).frozen? ⟨g2, m * 2 + 1, none⟩ = false := fun x => ((Gr.al Gr.rfl' x).frozen (p := ⟨g2, m * 2 + 1, none⟩) hg2).trans (hown'.frozenAt _)
          have hr3 := fun k hk => (hown'.lt k hk).1
          have hgt : (0 : Int) < (m : Int) + 1 := by omega
          have HM := Lib.hid hM
          have Hm := Lib.hid hm
          have Hown := Lib.hid hown'
          have hne : wr.heap.size ≠ g2 := by omega
          clear hM hm hel hownr hown' hml
          by_cases hyp : y2 = p
          · have hb1 : (y2 == p) = true := by simp [hyp]
            have Hyp := Lib.hid hyp
            clear hyp
            go_wp2_with fail
            go_quiet (fail)
            go_wp2_with fail
            have hst := ((own_drN (m := nq) (Hown.out.alloc (Obj.cells #[.int .i64 p, .int .i64 q] 26))).stored (m * 2 + 1) (.int .i64 q)).1
            have hmg : mergeS (l'.take (k + 1)) = M0 ++ [(y1, q)] := by rw [Ht.out, HM.out, mgStep_cat, if_pos Hyp.out]
            have hset : (encS M0 ++ [Value.int .i64 y1, .int .i64 y2]).set (m * 2 + 1) (.int .i64 q) = encS (M0 ++ [(y1, q)]) := by
              rw [encS_append, List.set_append_right _ _ (by rw [encS_len, Hm.out]; omega), encS_len, Hm.out]; simp [encS]
            go_roundw
            case rel => exact ⟨k + 1, by omega, by go_num, own_cast hst (by rw [hmg]; simp [Hm.out]) (by rw [hmg, hset]), Gr.sc (by (repeat (first | exact Gr.rfl' | refine Gr.al ?_ _ | refine Gr.dr ?_ | refine Gr.drN ?_ | refine Gr.sc ?_ (by simp <;> omega) _ | refine Gr.tr ?_ (by assumption)))) hg2b _⟩
            case measure => simp [intOf]; omega
          · have hb1 : (y2 == p) = false := by simp [hyp]
            have Hyp := Lib.hid hyp
            clear hyp
            go_wp2_with fail
            go_quiet (fail)
            go_wp2_with (at_builtin; refine wpList_append_own _ rfl _ _ 37 rfl w2.heap.size 26 i0 _ 2 16 Try.underlying37 hi hz0 hz1 hz2 rfl (by decide) _ _ _ rfl ((own_drN (Hown.out.alloc _)).alloc _) ⟨wr.heap.size + 1, 0, none⟩ 1 1 [.int .i64 p, .int .i64 q] rfl rfl (news_at (wr.heap.size + 1) (by simp)) (by intro u hu; simp only [List.mem_cons, List.not_mem_nil, or_false] at hu; rcases hu with rfl | rfl <;> rfl) (by unfold maxLen; omega) (by omega) (by simp; omega) ?_; intro v3 w3 hown3 hgrow3 _)
            have hmg : mergeS (l'.take (k + 1)) = M0 ++ [(y1, y2)] ++ [(p, q)] := by rw [Ht.out, HM.out, mgStep_cat, if_neg Hyp.out]
            go_roundw
            case rel => exact ⟨k + 1, by omega, by go_num, own_cast hown3 (by rw [hmg]; simp [Hm.out]) (by rw [hmg, encS_append, encS_append]; rfl), gr_gb (by (repeat (first | exact Gr.rfl' | refine Gr.al ?_ _ | refine Gr.dr ?_ | refine Gr.drN ?_ | refine Gr.sc ?_ (by simp <;> omega) _ | refine Gr.tr ?_ (by assumption)))) hgrow3 hr3⟩
            case measure => simp [intOf]; omega
      · obtain rfl : k = l'.length := by omega
        rw [List.take_length] at hownr
        obtain ⟨a6, c6, hu6⟩ := own_slice hownr
        subst hu6
        have hGr := hG2.tr hg
        have hpcr := keepc hGr hpc
        have hfr : wr.frozen? ⟨pb, 0, none⟩ = false := by
          rw [hGr.frozen (p := ⟨pb, 0, none⟩) hpl]; simp [World.frozen?, Hp.out]
        go_wp2_with fail
        refine (size_calls v l _ (rdRow.gr hv hGr) ⟨by omega, hl⟩).mono ?_
        rintro e w4 ⟨rfl, hb⟩
        have hpc4 := keepc hb hpcr
        have hf4 := (hb.frozen (p := ⟨pb, 0, none⟩) (World.block_lt_of_cell? _ _ hpcr)).trans hfr
        go_wp2_with fail
        have hb4 : w4.heap[pb]? = some (.cells #[v] 62 (0, 0)) := (hb.block pb (World.block_lt_of_cell? _ _ hpcr)).trans ((hGr.block pb hpl).trans Hp.out)
        have hown4 := own_gr hownr hb
        have hown5 := ownsRow_setCell_below hown4 (a := ⟨pb, 0, none⟩) (by show pb < w2.heap.size; omega) (.slice a6 (mergeS l').length c6)
        have hok : okS (mergeS l') := ⟨by have := mergeS_len l'; omega, vS_mergeS fun x hx => Hv2.out x (hperm.mem_iff.1 (by rw [← Hl2.out] at *; exact hx))⟩
        refine (size_calls _ (mergeS l') _ (rdRow_of_own hown5) hok).mono ?_
        rintro e w5 ⟨rfl, hb5⟩
        go_wp2_with fail
        go_ret
        refine ⟨l', .slice a6 (mergeS l').length c6, by rw [← Hl2.out]; exact hperm, hsorted, rfl, ?_, own_mono (own_gr hown5 hb5) (Nat.zero_le _), ?_⟩
        · have h4 : pb < w4.heap.size := (Array.getElem?_eq_some_iff.1 hb4).1
          rw [hb5.block pb (by simp [World.setCell]; exact h4)]
          rw [heap_setCell_same w4 pb 0 _ _ _ hb4]; rfl
        · have hG4 : Gr w w4 := hGr.tr hb
          refine ⟨hb5.os.trans hG4.os, hb5.tape.trans hG4.tape, hb5.output.trans hG4.output, ?_, fun j hj hne => ?_⟩
          · have := hb5.size; have := hG4.size; simp [World.setCell] at *; omega
          · have h4 := hG4.size
            rw [hb5.block j (by simp [World.setCell]; omega), Below.heap_setCell _ _ _ _ (fun e => hne (by rw [e])), hG4.block j hj]
end Go.Proofs.Ytafdddakkenlaaa
