import Derived.Test.YtafdddakkenlaaaWyc
namespace Go.Proofs.Ytafdddakkenlaaa
open Go.RowKit Go.Sort Go.Shelf
attribute [local go_sem ↓] field26_0 field26_1
attribute [local go_sem] Oper.semAt_some

theorem kp_gr {V : Nat} {W W' : World} (hV : V < W.heap.size) (hg : Gr W W') : Kp (mineL V) W W' :=
  ⟨hg.size, fun j c ty f hj _ => (hg.block j (Array.getElem?_eq_some_iff.1 hj).1).trans hj, fun j hm => by
    rcases hm with h | ⟨n, c, h⟩
    · exact .inl (.inl h)
    · exact .inl (.inr ⟨n, c, by rw [← hg.cell (p := ⟨V, 0, none⟩) hV]; exact h⟩)⟩
theorem spans_grow {W w1 : World} {V base : Nat} {t e : TypeId} {tmp : Obj} {k m g cap : Nat} {xs ys : List Value} {v : Value} (hVb : V < base) (hn : base ≤ W.heap.size) (hv : Boxed W V t v) (hte : t ≠ e) (hrow : W.ownsRow base e 2 v k xs)
    (hown1 : w1.ownsRow base e 2 (.slice (some ⟨g, 0, none⟩) m cap) m ys) (hgrow : (W.alloc tmp).grownBy w1 v.ownBlock) (hor : v.ownBlock = some g ∨ g = (W.alloc tmp).heap.size) (hlt : g < w1.heap.size) :
    KeepsFrom base W (w1.setCell ⟨V, 0, none⟩ (.slice (some ⟨g, 0, none⟩) m cap)) ∧ Kp (mineL V) W (w1.setCell ⟨V, 0, none⟩ (.slice (some ⟨g, 0, none⟩) m cap)) ∧
    Boxed (w1.setCell ⟨V, 0, none⟩ (.slice (some ⟨g, 0, none⟩) m cap)) V t (.slice (some ⟨g, 0, none⟩) m cap) ∧ (w1.setCell ⟨V, 0, none⟩ (.slice (some ⟨g, 0, none⟩) m cap)).ownsRow base e 2 (.slice (some ⟨g, 0, none⟩) m cap) m ys ∧ Below V W (w1.setCell ⟨V, 0, none⟩ (.slice (some ⟨g, 0, none⟩) m cap)) := by
  obtain ⟨hv1, hv2, _, hk, hb⟩ := hv.appended hte (own_mono hrow (Nat.le_of_lt hVb)) (by omega) (Nat.le_refl _) (own_mono hown1 (Nat.le_of_lt hVb)) hgrow
  have hown2 := hown1.kept (grownBy_setCell' w1 V (.slice (some ⟨g, 0, none⟩) m cap)) (.inr (hv1.not_row hte hown1).symm)
  have hvl := hv.lt
  refine ⟨hk.from _, ⟨hk.size, fun j c ty f hj hm => ?_, fun j hm => ?_⟩, hv2, hown2, hb⟩
  · have hjl := (Array.getElem?_eq_some_iff.1 hj).1
    have hjV : j ≠ V := fun h => hm (.inl h)
    rw [Below.heap_setCell _ _ _ _ hjV]
    refine (hgrow.block j (by simp; omega) (fun h => ?_)).trans ((Below.heap_alloc _ _ _ (by omega)).trans hj)
    rcases hrow.2 with ⟨rfl, _⟩ | ⟨g', cap', cur, rfl, _, _, _⟩
    · simp [Value.ownBlock] at h
    · obtain rfl : j = g' := by simpa [Value.ownBlock] using h
      exact hm (.inr ⟨_, _, hv.cell⟩)
  · rcases hm with h | ⟨n, c, h⟩
    · exact .inl (.inl h)
    · rw [hv2.cell] at h
      injection h with h; injection h with h1 h2 h3; injection h1 with h1; injection h1 with h1
      subst h1
      rcases hor with h4 | h4
      · left; right
        rcases hrow.2 with ⟨rfl, _⟩ | ⟨g', cap', cur, rfl, _, _, _⟩
        · simp [Value.ownBlock] at h4
        · obtain rfl : g' = g := by simpa [Value.ownBlock] using h4
          exact ⟨_, _, hv.cell⟩
      · right; rw [World.size_alloc] at h4
        exact ⟨by omega, by simpa using hlt⟩

set_option maxRecDepth 100000 in
set_option maxHeartbeats 4000000 in
theorem spans_law (a b c d k : Int) (w : World) :
    Calls Try.prog 5 #[.agg #[.int .i64 a, .int .i64 b], .agg #[.int .i64 c, .int .i64 d], .int .i64 k] w fun e w' => e = .returned (.bool true) ∧ Gr w w' := by
  refine calls_marks Try.func5 rfl ?_
  simp only [Try.ntmps5, List.size_toArray, List.length_cons, List.length_nil, Nat.reduceAdd, Nat.reduceSub, Array.replicate_succ, Array.replicate_zero, List.push_toArray, List.append_toArray, List.nil_append, List.cons_append]
  go_wp2_with fail
  refine (awake_calls _).mono ?_
  rintro e w1 ⟨rfl, hb⟩
  have bA : w1.heap[w.heap.size]? = some (.cells #[.int .i64 a, .int .i64 b] 26 (0, 0)) := (hb.block w.heap.size (by simp <;> omega)).trans ((Below.heap_alloc _ _ _ (by simp <;> omega)).trans (heap_alloc_new w _))
  have bB : w1.heap[w.heap.size + 1]? = some (.cells #[.int .i64 c, .int .i64 d] 26 (0, 0)) := (hb.block (w.heap.size + 1) (by simp <;> omega)).trans (by have := heap_alloc_new (w.alloc (.cells #[.int .i64 a, .int .i64 b] 26)) (.cells #[.int .i64 c, .int .i64 d] 26); rwa [World.size_alloc] at this)
  have hG : Gr w w1 := by (repeat (first | exact Gr.rfl' | refine Gr.al ?_ _ | refine Gr.dr ?_ | refine Gr.drN ?_ | refine Gr.sc ?_ (by simp <;> omega) _ | refine Gr.tr ?_ (by assumption)))
  have hlt1 : w.heap.size + 1 < w1.heap.size := (Array.getElem?_eq_some_iff.1 bB).1
  have x0 : w1.cell? ⟨w.heap.size, 0, none⟩ = some (.int .i64 a) := by rw [cell_of_row _ w.heap.size 0 _ _ _ bA]; rfl
  have x1 : w1.cell? ⟨w.heap.size, 1, none⟩ = some (.int .i64 b) := by rw [cell_of_row _ w.heap.size 1 _ _ _ bA]; rfl
  have x2 := fun o => keepc (Gr.al Gr.rfl' o) x0
  have x3 := fun o => keepc (Gr.al Gr.rfl' o) x1
  clear hb
  go_wp2_with fail
  refine (each_calls a b k _).mono ?_
  rintro e w2 ⟨rfl, rfl⟩
  have bV : (((w1.alloc (.cells #[.slice none 0 0] 37)).alloc (.cells #[.int .i64 a, .int .i64 b] 26)).alloc (.cells #[.int .i64 k] 3)).heap[w1.heap.size]? = some (.cells #[.slice none 0 0] 37 (0, 0)) :=
    (Below.heap_alloc _ _ _ (by simp <;> omega)).trans ((Below.heap_alloc _ _ _ (by simp <;> omega)).trans (heap_alloc_new w1 _))
  have bS : (((w1.alloc (.cells #[.slice none 0 0] 37)).alloc (.cells #[.int .i64 a, .int .i64 b] 26)).alloc (.cells #[.int .i64 k] 3)).heap[(w1.alloc (.cells #[.slice none 0 0] 37)).heap.size]? = some (.cells #[.int .i64 a, .int .i64 b] 26 (0, 0)) :=
    (Below.heap_alloc _ _ _ (by simp <;> omega)).trans (heap_alloc_new _ _)
  have bT : (((w1.alloc (.cells #[.slice none 0 0] 37)).alloc (.cells #[.int .i64 a, .int .i64 b] 26)).alloc (.cells #[.int .i64 k] 3)).heap[(w1.alloc (.cells #[.slice none 0 0] 37)).heap.size + 1]? = some (.cells #[.int .i64 k] 3 (0, 0)) := by
    have := heap_alloc_new ((w1.alloc (.cells #[.slice none 0 0] 37)).alloc (.cells #[.int .i64 a, .int .i64 b] 26)) (.cells #[.int .i64 k] 3)
    rwa [World.size_alloc] at this
  have hG0 : Gr w1 (((w1.alloc (.cells #[.slice none 0 0] 37)).alloc (.cells #[.int .i64 a, .int .i64 b] 26)).alloc (.cells #[.int .i64 k] 3)) := by (repeat (first | exact Gr.rfl' | refine Gr.al ?_ _ | refine Gr.dr ?_ | refine Gr.drN ?_ | refine Gr.sc ?_ (by simp <;> omega) _ | refine Gr.tr ?_ (by assumption)))
  have hsz : (((w1.alloc (.cells #[.slice none 0 0] 37)).alloc (.cells #[.int .i64 a, .int .i64 b] 26)).alloc (.cells #[.int .i64 k] 3)).heap.size = w1.heap.size + 3 := by simp
  replace bA := (hG0.block _ (Array.getElem?_eq_some_iff.1 bA).1).trans bA
  replace bB := (hG0.block _ (Array.getElem?_eq_some_iff.1 bB).1).trans bB
  clear x0 x1 x2 x3
  rw [World.size_alloc] at bS bT ⊢
  have hGw := hG.tr hG0
  generalize ((w1.alloc (.cells #[.slice none 0 0] 37)).alloc (.cells #[.int .i64 a, .int .i64 b] 26)).alloc (.cells #[.int .i64 k] 3) = W0 at *
  clear hG hG0
  generalize w1.heap.size = V at *
  clear w1
  go_wp2_with fail
  obtain ⟨i0, hi, hz0, hz1, hz2⟩ := info_parts info26
  have hVc : W0.cell? ⟨V, 0, none⟩ = some (.slice none 0 0) := by rw [cell_of_row _ V 0 _ _ _ bV]; rfl
  have hst := each_stops (mineL V) 5 (by omega) (V + 1) (V + 1 + 1) a b k W0
    (fun A B j hs hg hm => by
      rcases hm with h | ⟨n, c, h⟩
      · exact .inl h
      · exact .inr ⟨n, c, by rw [← hg.cell (p := ⟨V, 0, none⟩) (by show V < _; omega)]; exact h⟩)
    (fun W hg j hm => by
      have := hg.size
      rcases hm with h | ⟨n, c, h⟩
      · omega
      · rw [keepc hg hVc] at h; cases h)
    (fun W hg hm => by
      rcases hm with h | ⟨n, c, h⟩
      · omega
      · rw [keepc hg hVc] at h; cases h) bS bT
  refine wpIn_wide.1 (wpIn_rangeFunc_ownH (n := 6) rfl (by omega) (gf := 43) (lb := #[.pointer (some ⟨V + 1, 0, none⟩), .pointer (some ⟨V + 1 + 1, 0, none⟩)]) rfl trivial (enters_of Try.func43 (by kernel_rfl) rfl)
    hst Kp.tr (fun W l o o' hl h hc _ => kp_putObj (by omega) h hc) (Below.refl _ _) (fun _ => rfl)
    (fun pre W => ((∃ v, Boxed W V 37 v ∧ W.ownsRow W0.heap.size 26 2 v pre.length (encS pre) ∧ True) ∧ Below V W0 W) ∧ pre.length < 100)
    (fun cd pre W => ((∃ v, Boxed W V 37 v ∧ W.ownsRow W0.heap.size 26 2 v pre.length (encS pre) ∧ True) ∧ Below V W0 W) ∧ (cd = .exit 0 ∧ pre.length = 100))
    (OwnFrom.and (OwnFrom.and (Own.from (holdsRow_own W0.heap.size V 37 26 2 (fun pre => pre.length) encS (fun _ _ => True)) _) (ownFrom_below (by omega) (by omega))) (ownFrom_pure _ _))
    (fun cd => OwnFrom.and (OwnFrom.and (Own.from (holdsRow_own W0.heap.size V 37 26 2 (fun pre => pre.length) encS (fun _ _ => True)) _) (ownFrom_below (by omega) (by omega))) (ownFrom_pure _ _))
    ⟨⟨⟨_, bV, World.ownsRow_nil _ _ _ _, trivial⟩, Below.refl _ _⟩, by simp⟩
    (fun x a' W => ∃ Bx, W0.heap.size ≤ Bx ∧ W.heap[Bx]? = some (.cells #[.int .i64 x.1, .int .i64 x.2] 26 (0, 0)) ∧ a' = { tmps := #[.agg #[.int .i64 a, .int .i64 b], .agg #[.int .i64 c, .int .i64 d], .int .i64 k, .pointer (some ⟨w.heap.size, 0, none⟩), .pointer (some ⟨w.heap.size + 1, 0, none⟩), undef, .bool false, .bool true, .pointer (some ⟨V, 0, none⟩), .pointer (some ⟨Bx, 0, none⟩), undef, undef, undef, .bool true, .bool true, .bool false, .agg #[.int .i64 a, .int .i64 b], .int .i64 k, .func (.func 43) #[] #[.pointer (some ⟨V + 1, 0, none⟩), .pointer (some ⟨V + 1 + 1, 0, none⟩)], .agg #[.int .i64 x.1, .int .i64 x.2], undef, undef, undef, undef, undef, undef, undef, undef, undef, undef, undef, undef, undef, undef, undef, undef, undef, undef, undef, undef, undef, undef, undef, undef, undef, undef, undef, undef, undef, undef, undef, undef, undef, undef, undef, undef, undef, undef, undef, undef, undef, undef, undef, undef, undef, undef, undef, undef, undef, undef, undef, undef, undef, undef, undef, undef, undef, undef, undef, undef, undef, undef, undef, undef, undef, undef, undef, undef, undef, undef, undef, undef, undef, undef, undef, undef, undef, undef, undef], defers := [] }) ?hAx ?assign ?body ?done ?stop)
  case hAx =>
    rintro x a' _ X Y row ⟨Bx, h1, h2, h3⟩ hg hr
    exact ⟨Bx, h1, (hg.block Bx (Array.getElem?_eq_some_iff.1 h2).1 (fun e => by obtain ⟨_, o, ho, hc⟩ := hr _ e.symm; rw [h2] at ho; cases ho; cases hc)).trans h2, h3⟩
  case assign =>
    rintro l pre x W K ⟨⟨⟨v, hv, hrow, _⟩, hB⟩, hpl⟩ hK
    gi_wp2
    refine hK _ _ ((KeepsOthers.alloc _ _).from _) (kp_gr ?_ (Gr.al Gr.rfl' _)) ⟨⟨⟨v, hv.alloc _, hrow.alloc _, trivial⟩, hB.alloc ?_ _⟩, hpl⟩ ⟨W.heap.size, hB.size, heap_alloc_new W _, rfl⟩
    · have := hB.size; omega
    · have := hB.size; omega
  case body =>
    rintro l pre x a' W hl ⟨r, hr⟩ ⟨⟨⟨v, hv, hrow, _⟩, hB⟩, hpl⟩ ⟨Bx, hBx, bX, rfl⟩ hlt
    have hBs := hB.size
    have x0 : W.cell? ⟨Bx, 0, none⟩ = some (.int .i64 x.1) := by rw [cell_of_row _ Bx 0 _ _ _ bX]; rfl
    have x1 : W.cell? ⟨Bx, 1, none⟩ = some (.int .i64 x.2) := by rw [cell_of_row _ Bx 1 _ _ _ bX]; rfl
    have hc := hv.cell
    have hvl := hv.lt
    obtain ⟨va, vc, hve⟩ := own_slice hrow
    subst hve
    have hnr := (hv.alloc (.cells #[.int .i64 x.1, .int .i64 x.2] 26)).not_row (by decide) (hrow.alloc (.cells #[.int .i64 x.1, .int .i64 x.2] 26))
    have h100 : ((pre.length : Int) + 1 == 100) = true ∧ pre.length + 1 = 100 ∨ ((pre.length : Int) + 1 == 100) = false ∧ pre.length + 1 < 100 := by
      by_cases h : pre.length + 1 = 100
      · left; exact ⟨by rw [beq_iff_eq]; omega, h⟩
      · right; exact ⟨by rw [beq_eq_false_iff_ne]; omega, by omega⟩
    rcases h100 with ⟨h1, h2⟩ | ⟨h1, h2⟩
    · gi_wp2_with (gi_at_builtin; refine appendIn_lies _ rfl _ _ 37 rfl W0.heap.size 26 i0 _ 2 16 Try.underlying37 hi hz0 hz1 hz2 rfl (by decide) _ _ _ rfl (hrow.alloc _) ⟨W.heap.size, 0, none⟩ 1 1 [.int .i64 x.1, .int .i64 x.2] rfl rfl (World.news_of_block (heap_alloc_new W _)) (by intro u hu; simp only [List.mem_cons, List.not_mem_nil, or_false] at hu; rcases hu with rfl | rfl <;> rfl) (by decide) (by unfold maxLen; omega) (by omega) (by simp; omega) ?_; intro g cap w1 hown1 hgrow hor hlt1; have hV1 := (hv.alloc (.cells #[.int .i64 x.1, .int .i64 x.2] 26)).kept hgrow hnr; have hV1c := hV1.cell; have hV1f := hV1.frozen; obtain ⟨e1, e2, e3, e4, e5⟩ := spans_grow (by omega) hBs hv (by decide) hrow hown1 hgrow hor hlt1)
      rw [h2] at e1 e2 e3 e4 e5
      exact ⟨e1, ⟨⟨_, e3, own_cast e4 (by simp; omega) (by rw [encS_append]; rfl), trivial⟩, hB.trans e5⟩, rfl, by simp; omega⟩
    · gi_wp2_with (gi_at_builtin; refine appendIn_lies _ rfl _ _ 37 rfl W0.heap.size 26 i0 _ 2 16 Try.underlying37 hi hz0 hz1 hz2 rfl (by decide) _ _ _ rfl (hrow.alloc _) ⟨W.heap.size, 0, none⟩ 1 1 [.int .i64 x.1, .int .i64 x.2] rfl rfl (World.news_of_block (heap_alloc_new W _)) (by intro u hu; simp only [List.mem_cons, List.not_mem_nil, or_false] at hu; rcases hu with rfl | rfl <;> rfl) (by decide) (by unfold maxLen; omega) (by omega) (by simp; omega) ?_; intro g cap w1 hown1 hgrow hor hlt1; have hV1 := (hv.alloc (.cells #[.int .i64 x.1, .int .i64 x.2] 26)).kept hgrow hnr; have hV1c := hV1.cell; have hV1f := hV1.frozen; obtain ⟨e1, e2, e3, e4, e5⟩ := spans_grow (by omega) hBs hv (by decide) hrow hown1 hgrow hor hlt1)
      exact ⟨e1, e2, ⟨⟨_, e3, own_cast e4 (by simp) (by rw [encS_append]; rfl), trivial⟩, hB.trans e5⟩, by simp; omega⟩
  case' done =>
    rintro D xs W hD rfl ⟨⟨⟨v, hv, hrow, _⟩, hB⟩, hxl⟩ hK
    obtain ⟨m, hm⟩ : ∃ m, min 100 (wCount (a, b) k).toNat = m := ⟨_, rfl⟩
    rw [wEach_len] at hxl
    replace hrow : W.ownsRow W0.heap.size 26 2 v m (encS (wEach (a, b) k m)) := by
      obtain rfl : (wCount (a, b) k).toNat = m := by omega
      exact own_cast hrow (wEach_len _ _ _) rfl
    clear hxl
    go_wp2_with fail
  case' stop =>
    rintro D cd pre W hD ⟨m, hm0, rfl⟩ ⟨⟨⟨v, hv, hrow, _⟩, hB⟩, rfl, hxl⟩ hK
    rw [wEach_len] at hxl hrow
    have hm : min 100 (wCount (a, b) k).toNat = m := by omega
    clear hxl hm0
    refine wpIn_wide.2 ?_
    go_wp2_with fail
  all_goals
    have hWs := hB.size
    have cA := (hB.block w.heap.size (by omega)).trans bA
    have cB := (hB.block (w.heap.size + 1) (by omega)).trans bB
    have hGW : Gr w W := ⟨hB.os.trans hGw.os, hB.tape.trans hGw.tape, hB.output.trans hGw.output, Nat.le_trans hGw.size hWs, fun j hj => (hB.block j (by omega)).trans (hGw.block j hj)⟩
    clear bA bB bV bS bT hst hB hVc
    have x0 : W.cell? ⟨w.heap.size, 0, none⟩ = some (.int .i64 a) := by rw [cell_of_row _ w.heap.size 0 _ _ _ cA]; rfl
    have x1 : W.cell? ⟨w.heap.size, 1, none⟩ = some (.int .i64 b) := by rw [cell_of_row _ w.heap.size 1 _ _ _ cA]; rfl
    have y0 : W.cell? ⟨w.heap.size + 1, 0, none⟩ = some (.int .i64 c) := by rw [cell_of_row _ (w.heap.size + 1) 0 _ _ _ cB]; rfl
    have y1 : W.cell? ⟨w.heap.size + 1, 1, none⟩ = some (.int .i64 d) := by rw [cell_of_row _ (w.heap.size + 1) 1 _ _ _ cB]; rfl
    have vc := hv.cell
    have hrd := rdRow_of_own hrow
    have hDl := (Array.getElem?_eq_some_iff.1 hK).1
    have hD0 : w.heap.size ≤ D := Nat.le_trans hGw.size hD
    clear cA cB hv hrow hGw hsz hWs hD hlt1
    have hreach := reach_calls a b k
    rw [hm] at hreach
    have hm1 : m ≤ 100 := by omega
    clear hm
    have hwl := wEach_len (a, b) k m
    generalize wEach (a, b) k m = we at *
    subst hwl
    obtain ⟨va, vcap, rfl⟩ : ∃ va vcap, v = .slice va we.length vcap := by obtain ⟨_, u1, u2, u3, _⟩ := hrd; exact ⟨u1, u2, u3⟩
    have Hrd := Lib.hid hrd; have Hreach := Lib.hid hreach
    clear hrd hreach
    go_region_held3 (fun w' => w'.cell? ⟨V, 0, none⟩ = some (.slice va we.length vcap) ∧ w'.cell? ⟨w.heap.size, 0, none⟩ = some (.int .i64 a) ∧ w'.cell? ⟨w.heap.size, 1, none⟩ = some (.int .i64 b)) (first | (go_keep; done) | (refine ⟨keepc hb ?_, keepc hb ?_, keepc hb ?_⟩ <;> (simp [*]; done)))
        (first | (go_at_call 23; refine (Hreach.out _).mono ?_; rintro e wa ⟨vr, rfl, hown, hb⟩; obtain ⟨ra, rc, rfl⟩ := own_slice hown; have Hown := Lib.hid hown; clear hown; have hga := Lib.hid hb) | (go_at_call 22; refine (same_calls _ _ we _ (Hrd.out.gr (by (repeat (first | exact Gr.rfl' | refine Gr.al ?_ _ | refine Gr.dr ?_ | refine Gr.drN ?_ | refine Gr.sc ?_ (by simp <;> omega) _ | refine Gr.tr ?_ (by assumption))))) (rdRow_of_own Hown.out) (by omega)).mono ?_; rintro e wb ⟨rfl, hb⟩))
    all_goals
      have hg2 : Gr W wb := by have := hga.out; (repeat (first | exact Gr.rfl' | refine Gr.al ?_ _ | refine Gr.dr ?_ | refine Gr.drN ?_ | refine Gr.sc ?_ (by simp <;> omega) _ | refine Gr.tr ?_ (by assumption)))
      clear Hown hga Hreach Hrd vc
      rename_i hh1 hh2
      clear hh1 hh2 hb
      replace x0 := keepc hg2 x0; replace x1 := keepc hg2 x1; replace y0 := keepc hg2 y0; replace y1 := keepc hg2 y1
      go_wp2_with fail
      refine (is_calls _ _ _).mono ?_
      rintro e wc ⟨rfl, hb⟩
      replace hg2 := hg2.tr hb
      replace x0 := keepc hb x0; replace x1 := keepc hb x1; replace y0 := keepc hb y0; replace y1 := keepc hb y1
      clear hb
      go_wp2_with fail
      refine (rboth_calls _ _ _ _ _).mono ?_
      rintro e wd ⟨rfl, hb⟩
      replace hg2 := hg2.tr hb
      replace x0 := keepc hb x0; replace x1 := keepc hb x1; replace y0 := keepc hb y0; replace y1 := keepc hb y1
      clear hb
      have hMe : wMeets (a, b) (c, d) = decide ((wBoth (a, b) (c, d)).1 < (wBoth (a, b) (c, d)).2) := rfl
      have hbo := both_calls a b c d
      have hme := meets_calls a b c d
      generalize wBoth (a, b) (c, d) = pq at *
      obtain ⟨p, q⟩ := pq
      simp only at hMe hbo
      have z0 : (wd.alloc (.cells #[.int .i64 p, .int .i64 q] 26)).cell? ⟨wd.heap.size, 0, none⟩ = some (.int .i64 p) := by simp
      have z1 : (wd.alloc (.cells #[.int .i64 p, .int .i64 q] 26)).cell? ⟨wd.heap.size, 1, none⟩ = some (.int .i64 q) := by simp
      replace x0 := keepc (Gr.al Gr.rfl' (.cells #[.int .i64 p, .int .i64 q] 26)) x0
      replace x1 := keepc (Gr.al Gr.rfl' (.cells #[.int .i64 p, .int .i64 q] 26)) x1
      replace y0 := keepc (Gr.al Gr.rfl' (.cells #[.int .i64 p, .int .i64 q] 26)) y0
      replace y1 := keepc (Gr.al Gr.rfl' (.cells #[.int .i64 p, .int .i64 q] 26)) y1
      replace hg2 := hg2.al (.cells #[.int .i64 p, .int .i64 q] 26)
      go_wp2_with fail
      generalize wd.alloc (.cells #[.int .i64 p, .int .i64 q] 26) = W3 at *
      generalize wd.heap.size = B3 at *
      clear wd wc wb
      rw [hMe] at hme
      clear hMe
      have hcc := check_calls a b
      generalize wCheck (a, b) = ck at *
      have hkk : decide (ck = 0) = (ck == 0) := rfl
      rw [hkk]
      clear hkk
      have Hbo := Lib.hid hbo; have Hme := Lib.hid hme; have Hcc := Lib.hid hcc
      clear hbo hme hcc
      clear hi hz0 hz1 hz2 i0
      go_region_held3 (fun w' => w'.cell? ⟨w.heap.size, 0, none⟩ = some (.int .i64 a) ∧ w'.cell? ⟨w.heap.size, 1, none⟩ = some (.int .i64 b) ∧ w'.cell? ⟨w.heap.size + 1, 0, none⟩ = some (.int .i64 c) ∧ w'.cell? ⟨w.heap.size + 1, 1, none⟩ = some (.int .i64 d) ∧ w'.cell? ⟨B3, 0, none⟩ = some (.int .i64 p) ∧ w'.cell? ⟨B3, 1, none⟩ = some (.int .i64 q))
        (first | (go_keep; done) | (refine ⟨keepc hb ?_, keepc hb ?_, keepc hb ?_, keepc hb ?_, keepc hb ?_, keepc hb ?_⟩ <;> (simp [*]; done)))
        (first
          | (go_at_call 18; refine (Hcc.out _).mono ?_; rintro e we ⟨rfl, hb⟩)
          | (go_at_call 26; refine (aligned_calls _ _ _ _).mono ?_; rintro e we ⟨rfl, hb⟩)
          | (go_at_call 27; refine (raligned_calls _ _ _ _).mono ?_; rintro e we ⟨rfl, hb⟩)
          | (go_at_call 28; refine (cover_calls _ _ _ _).mono ?_; rintro e we ⟨rfl, hb⟩)
          | (go_at_call 29; refine (rcover_calls _ _ _ _).mono ?_; rintro e we ⟨rfl, hb⟩)
          | (go_at_call 30; refine (inner_calls _ _ _ _).mono ?_; rintro e we ⟨rfl, hb⟩)
          | (go_at_call 31; refine (rinner_calls _ _ _ _).mono ?_; rintro e we ⟨rfl, hb⟩)
          | (go_at_call 32; refine (count_calls _ _ _ _).mono ?_; rintro e we ⟨rfl, hb⟩)
          | (go_at_call 33; refine (rcount_calls _ _ _ _).mono ?_; rintro e we ⟨rfl, hb⟩)
          | (go_at_call 19; refine (Hbo.out _).mono ?_; rintro e we ⟨rfl, hb⟩)
          | (go_at_call 20; refine (Hme.out _).mono ?_; rintro e we ⟨rfl, hb⟩))
      have hgz : Gr W we := by (repeat (first | exact Gr.rfl' | refine Gr.al ?_ _ | refine Gr.dr ?_ | refine Gr.drN ?_ | refine Gr.sc ?_ (by simp <;> omega) _ | refine Gr.tr ?_ (by assumption)))
      have hKw := (hgz.block D hDl).trans hK
      have hgw := hGW.tr hgz
      go_wp2_with fail
      refine ⟨by simp, .inl ⟨_, _, rfl, run_takeDeferred hKw, ?_⟩⟩
      exact ⟨_, results_tmp rfl _ _ _, rfl, hgw.trans (belowK_b (w := w) (Nat.le_refl _) we D _ _ hD0 hKw rfl rfl)⟩
end Go.Proofs.Ytafdddakkenlaaa
