/- Package files: happens. -/
import Derived.Test.YtdopmcepfacdlaaFdD
namespace Go.Proofs.Ytdopmcepfacdlaa
open Go.RowKit Go.Maps
attribute [local go_sem] max2_mx min2_mn max_two' min_two'

/-- X, and what is new. -/
def Aft (X : Nat → Prop) (w w' : World) (k : Nat) : Prop := X k ∨ (w.heap.size ≤ k ∧ k < w'.heap.size)
theorem Aft.lt {X : Nat → Prop} {w w' : World} (hx : ∀ k, X k → k < w.heap.size) (hs : w.heap.size ≤ w'.heap.size) : ∀ k, Aft X w w' k → k < w'.heap.size := fun k hk => hk.elim (fun h => Nat.lt_of_lt_of_le (hx k h) hs) (fun h => h.2)
/-- What a folder has beside its own cells, its names, and its list of what happened. -/
structure Rest (X : Nat → Prop) (w : World) (fb : Option Nat) (firm : Dir) (vs : List Value) (os : List FOp) (H : Nat → Prop) (fl : Nat → Fl) : Prop where
  firm : DirAt w fb firm
  cl : ∀ i (hi : i < os.length), ∃ v, vs[i]? = some v ∧ ClAt X w v os[i]
  files : ∀ n, H n → X n ∧ w.heap[n]? = some (.cells #[.string (fl n).b, .int .i64 (fl n).sy] 70 (0, 0))
section
variable {X Y Z : Nat → Prop} {w w' : World} {p : Nat} {F : Fd} {fb nb : Option Nat} {firm : Dir} {vs : List Value} {os : List FOp} {H : Nat → Prop} {fl : Nat → Fl} {sv : Value}
theorem Rest.bt (h : Rest X w fb firm vs os H fl) (hb : Bt Y w w') (hy : ∀ k, Y k → (∀ T, Kd w k T → T ≠ 70 ∧ T ≠ 67 ∧ T ≠ 9) ∧ fb ≠ some k) : Rest X w' fb firm vs os H fl :=
  ⟨h.firm.bt hb (fun k e z => (hy k z).2 e), fun i hi => by
    obtain ⟨v, e, hc⟩ := h.cl i hi
    exact ⟨v, e, hc.bt hb (fun k z _ T hT => ((hy k z).1 T hT).2)⟩, fun n hn => by
    obtain ⟨x, e⟩ := h.files n hn
    exact ⟨x, (hb.block n (blk_lt e) (fun z => ((hy n z).1 _ ⟨_, e⟩).1 rfl)).trans e⟩⟩
theorem Rest.gr (h : Rest X w fb firm vs os H fl) (hg : Gr w w') : Rest X w' fb firm vs os H fl := h.bt (Y := fun _ => False) (.of hg) (fun _ z => z.elim)
theorem Rest.wid (h : Rest X w fb firm vs os H fl) (hx : ∀ k, X k → Z k) : Rest Z w fb firm vs os H fl :=
  ⟨h.firm, fun i hi => by obtain ⟨v, e, hc⟩ := h.cl i hi; exact ⟨v, e, hc.wid hx⟩, fun n hn => ⟨hx n (h.files n hn).1, (h.files n hn).2⟩⟩
theorem Rest.add (h : Rest X w fb firm vs os H fl) {G : Nat → Prop} (hn : ∀ n, G n → X n ∧ w.heap[n]? = some (.cells #[.string (fl n).b, .int .i64 (fl n).sy] 70 (0, 0))) : Rest X w fb firm vs os (fun n => H n ∨ G n) fl :=
  ⟨h.firm, h.cl, fun n hh => hh.elim (h.files n) (hn n)⟩
theorem Rest.hy (h : Rest X w fb firm vs os H fl) {T0 : TypeId} (hk : ∀ k, Y k → Kd w k T0) (ht : T0 ≠ 70 ∧ T0 ≠ 67 ∧ T0 ≠ 9) : ∀ k, Y k → (∀ T, Kd w k T → T ≠ 70 ∧ T ≠ 67 ∧ T ≠ 9) ∧ fb ≠ some k := fun k hy =>
  ⟨fun T hT => by rw [hT.one (hk k hy)]; exact ht, fun e => by
    subst e
    obtain ⟨es, c, hm⟩ := h.firm.map
    exact (hk k hy).no hm⟩
theorem DirAt.btk {mb : Option Nat} {l : Dir} (h : DirAt w mb l) (hb : Bt Y w w') {T0 : TypeId} (hk : ∀ k, Y k → Kd w k T0) : DirAt w' mb l := h.bt hb (fun k e z => by
  subst e
  obtain ⟨es, c, hm⟩ := h.map
  exact (hk k z).no hm)
theorem FdAt.opened (h : FdAt X w p F) : ∃ nb fb sv vs, w.heap[p]? = some (.cells (fdC F nb fb sv) 64 (0, 0)) ∧ DirAt w nb F.now ∧ (∀ k, nb = some k → X k) ∧ (∀ k, fb = some k → X k) ∧ (nb ≠ none → nb ≠ fb) ∧ (F.up = true → nb ≠ none) ∧
    w.ownsRow 0 72 1 sv F.since.length vs ∧ (∀ k, sv.ownBlock = some k → X k) ∧ Rest X w fb F.firm vs F.since F.has F.fl := by
  obtain ⟨nb, fb, sv, h1, h2, h3, h4, h5, h6, ⟨vs, h7, h8, h9⟩, h10⟩ := h.blk
  exact ⟨nb, fb, sv, vs, h1, h2, h4, h5, h6, h10, h7, h8, h3, h9, h.files⟩
theorem FdAt.made (hlt : ∀ k, X k → k < w.heap.size) (hp : X p) (h1 : w.heap[p]? = some (.cells (fdC F nb fb sv) 64 (0, 0))) (h2 : DirAt w nb F.now) (h3 : ∀ k, nb = some k → X k) (h4 : ∀ k, fb = some k → X k) (h5 : nb ≠ none → nb ≠ fb) (h6 : F.up = true → nb ≠ none)
    (h7 : w.ownsRow 0 72 1 sv F.since.length vs) (h8 : ∀ k, sv.ownBlock = some k → X k) (h9 : Rest X w fb F.firm vs F.since F.has F.fl) : FdAt X w p F :=
  ⟨hlt, hp, ⟨nb, fb, sv, h1, h2, h9.firm, h3, h4, h5, ⟨vs, h7, h8, h9.cl⟩, h6⟩, h9.files⟩
end
theorem run_ids {l : Dir} {o : FOp} {t : ByteArray} {n : Nat} (h : (t, n) ∈ o.run l) : (∃ s, (s, n) ∈ l) ∨ ∃ s, o = .cre s n := by
  cases o with
  | cre s m =>
    rcases mem_ins h with h | h
    · injection h with h1 h2; subst h2; exact .inr ⟨s, rfl⟩
    · exact .inl ⟨t, h⟩
  | del s => exact .inl ⟨t, (List.mem_filter.1 h).1⟩
  | ren s u =>
    change (t, n) ∈ (match look l s with | some n => insD (delD l s) u n | none => l) at h
    split at h
    · rename_i m hm
      rcases mem_ins h with h | h
      · injection h with h1 h2; subst h2; exact .inl ⟨s, look_mem hm⟩
      · exact .inl ⟨t, (List.mem_filter.1 h).1⟩
    · exact .inl ⟨t, h⟩
/-- The folder behind what happens to names. -/
def hapF (F : Fd) (o : FOp) : Fd := { stepF F with now := o.run F.now, since := F.since ++ [o] }
theorem stepF_parts (F : Fd) : (stepF F).now = F.now ∧ (stepF F).firm = F.firm ∧ (stepF F).since = F.since ∧ (stepF F).fl = F.fl ∧ (stepF F).up = F.up ∧ (stepF F).room = F.room := by
  unfold stepF; split
  · exact ⟨rfl, rfl, rfl, rfl, rfl, rfl⟩
  · split <;> exact ⟨rfl, rfl, rfl, rfl, rfl, rfl⟩
theorem hap_has {F : Fd} {o : FOp} {n : Nat} (h : (hapF F o).has n) : F.has n ∨ ∃ s, o = .cre s n := by
  rcases h with ⟨s, h⟩ | ⟨s, h⟩ | ⟨s, h⟩
  · rcases run_ids h with h | h
    · exact .inl (.inl h)
    · exact .inr h
  · have e : (hapF F o).firm = F.firm := (stepF_parts F).2.1
    rw [e] at h
    exact .inl (.inr (.inl ⟨s, h⟩))
  · rcases List.mem_append.1 h with h | h
    · exact .inl (.inr (.inr ⟨s, h⟩))
    · exact .inr ⟨s, (List.mem_singleton.1 h).symm⟩
theorem infoFn : (Try.prog.info? 72).map (fun i => (i.zero, i.size, i.bytes)) = some (some .nilFunc, 1, 8) := by kernel_rfl
theorem ClAt.one {X : Nat → Prop} {w : World} {v : Value} {o : FOp} (h : ClAt X w v o) : v.oneCell' = true := by
  cases o with
  | cre s n => obtain ⟨_, bx, bn, rfl, _⟩ := h; rfl
  | del s => obtain ⟨_, bn, rfl, _⟩ := h; rfl
  | ren s t => obtain ⟨_, _, bn, bt, rfl, _⟩ := h; rfl
theorem nb_some {nb : Option Nat} (h : nb ≠ none) : ∃ b, nb = some b := by cases nb with | none => exact absurd rfl h | some b => exact ⟨b, rfl⟩
set_option maxRecDepth 100000 in
set_option maxHeartbeats 4000000 in
theorem happens_calls (X : Nat → Prop) (w : World) (p : Nat) (F : Fd) (h : FdAt X w p F) (hup : F.up = true) (hs : I64 F.steps) (o : FOp) (v : Value) (hv : ClAt X w v o) (hcan : o.can F.now) (hlen : F.now.length ≤ 100) (hsl : F.since.length ≤ 1000000)
    (hnew : ∀ s n, o = .cre s n → X n ∧ w.heap[n]? = some (.cells #[.string (F.fl n).b, .int .i64 (F.fl n).sy] 70 (0, 0))) :
    Calls Try.prog 41 #[.pointer (some ⟨p, 0, none⟩), v] w fun e w' => e = .returned (.int .i64 (stepE F)) ∧ FdAt (Aft X w w') w' p (hapF F o) ∧ Bt X w w' := by
  obtain ⟨q1, q2, q3, q4, q5, q6⟩ := stepF_parts F
  have kp : Kd w p 64 := by obtain ⟨nb, fb, sv, h1, _⟩ := h.blk; exact ⟨_, h1⟩
  have hK : ∀ k, k = p → X k → ∀ T, Kd w k T → T ≠ 67 ∧ T ≠ 9 := fun k z _ T hT => by subst z; have := hT.one kp; subst this; decide
  have HSt := Lib.hid (step_calls X w p F h hs)
  have HUp := Lib.hid (q5.trans hup); have HNow := Lib.hid q1; have HK := Lib.hid hK; have HX := Lib.hid h.xp; have HKp := Lib.hid kp; have HXl := Lib.hid h.xlt; have HC := Lib.hid hv; have HN := Lib.hid hnew
  have HPost := Lib.hid (show hapF F o = { stepF F with now := o.run F.now, since := F.since ++ [o] } from rfl)
  have hsl' : (stepF F).since.length ≤ 1000000 := by rw [q3]; exact hsl
  have HQ := Lib.hid (And.intro q2 (And.intro q3 q4))
  have HH := Lib.hid (show ∀ n, F.has n → (stepF F).has n from fun n hn => by unfold Fd.has at hn ⊢; rw [q1, q2, q3]; exact hn)
  cases o with
  | cre s0 n0 =>
    have HCl := Lib.hid (fun (W : World) b (hb1 : Bt (fun k => k = p) w W) (d1 : DirAt W (some b) F.now) => by
      obtain ⟨h20, bx, bn, e, y1, y2, g1, g2⟩ := hv.bt hb1 hK
      exact (show ∀ bx' bn', v = .func (.func 42) #[] #[adr bx', adr bn'] → Calls Try.prog 42 #[.map (some b), adr bx', adr bn'] W (ClPost W b (insD F.now s0 n0)) from fun bx' bn' e' => by
        rw [e] at e'; injection e' with _ _ e'; simp at e'
        obtain ⟨rfl, rfl⟩ := e'
        exact cre1_calls W b F.now d1 (by omega) s0 n0 h20 _ _ g1 g2))
    obtain ⟨h20, bx, bn, rfl, _⟩ := id hv
    replace HCl := Lib.hid (fun W b hb1 d1 => HCl.out W b hb1 d1 bx bn rfl)
    clear h hv hcan hlen hnew hK kp q1 q2 q3 q4 q5 q6
    go_enter Try.func41, Try.ntmps41
    go_wp2_with (go_at_call 43; refine HSt.out.mono ?_; rintro e w1 ⟨rfl, hf1, hb1⟩; obtain ⟨nb, fb, sv, vs, e1, d1, x1, x2, x3, x4, r1, x5, rs1⟩ := hf1.opened; obtain ⟨b, rfl⟩ := nb_some (x4 HUp.out); obtain ⟨c0, _, c2, _⟩ := fd_cells e1; have hcl := HCl.out w1 b hb1 (HNow.out ▸ d1))
    refine hcl.mono ?_
    rintro e w2 ⟨rfl, d2, g2⟩
    obtain ⟨es, cc, hm⟩ := d1.map
    have hpb : p ≠ b := fun z => by subst z; exact (show Kd w1 p 64 from ⟨_, e1⟩).no hm
    have e2 := blk_far g2 e1 hpb
    have hb2 : Bt (fun k => k = b) w1 w2 := Bt.row g2 rfl
    have r2 := own_bt r1 hb2 (fun k e z => by subst z; exact (own_kd r1 e).no hm)
    have rsA := rs1.add (G := fun n => ∃ s', (FOp.cre s0 n0) = FOp.cre s' n) (fun n hn => by
      obtain ⟨s', e⟩ := hn
      obtain ⟨y1, y2⟩ := HN.out s' n e
      refine ⟨y1, ?_⟩
      rw [HQ.out.2.2]
      exact (hb1.block n (blk_lt y2) (fun z => by subst z; have := HKp.out.one ⟨_, y2⟩; revert this; decide)).trans y2)
    have rs2 := rsA.bt hb2 (fun k z => by subst z; exact ⟨fun T hT => (hT.no hm).elim, fun e => x3 (by simp) e.symm⟩)
    obtain ⟨_, _, c2', _⟩ := fd_cells e2
    obtain ⟨i0, hi, hz0, hz1, hz2⟩ := info_parts infoFn
    have R2 := Lib.hid r2; have RS2 := Lib.hid rs2; have E2 := Lib.hid e2; have D2 := Lib.hid d2; have HB := Lib.hid (And.intro hb1 hb2); have X1 := Lib.hid x1; have X2 := Lib.hid x2; have X3 := Lib.hid x3; have X5 := Lib.hid x5; have HPB := Lib.hid hpb
    obtain ⟨sa, sc, rfl⟩ := own_slice r1
    have hcl1 := HC.out.bt hb1 HK.out
    obtain ⟨es2, cc2, hm2⟩ := d2.map
    have hcl2 := hcl1.bt hb2 (fun k z _ T hT => by subst z; exact (hT.no hm).elim)
    have HC2 := Lib.hid hcl2; have HM2 := Lib.hid hm2
    clear hcl hf1 hb1 e1 d1 x1 x2 x3 x4 r1 x5 rs1 c0 c2 d2 g2 hm rsA hpb e2 hb2 r2 rs2 hcl1 hcl2 hm2
    go_wp2_with (at_builtin; refine Hid.out ?_)
    apply Lib.hid
    refine wpList_append_own_at _ rfl (.tmp 18) (.tmp 20) 62 rfl 0 72 i0 .nilFunc 1 8 Try.underlying62 hi hz0 hz1 hz2 rfl (by decide) (.slice sa (stepF F).since.length sc) (stepF F).since.length vs rfl (R2.out.alloc _) ⟨w2.heap.size, 0, none⟩ 1 1 [.func (.func 42) #[] #[adr bx, adr bn]] rfl rfl (World.news_of_block (heap_alloc_new w2 _)) (by intro u hu; simp only [List.mem_cons, List.not_mem_nil, or_false] at hu; subst hu; rfl) (by unfold maxLen; omega) (by omega) (Nat.zero_le _) ?_
    intro v4 w4 hown4 hg4 _ hat4
    obtain ⟨a4, c4, rfl⟩ := own_slice hown4
    have k2 : ∀ k, (Value.slice sa (stepF F).since.length sc).ownBlock = some k → Kd w2 k 72 := fun k e => own_kd R2.out e
    have g3 : Gr w2 (w2.alloc (.cells #[.func (.func 42) #[] #[adr bx, adr bn]] 72)) := Gr.al Gr.rfl' _
    have hk3 : ∀ k, (Value.slice sa (stepF F).since.length sc).ownBlock = some k → Kd (w2.alloc (.cells #[.func (.func 42) #[] #[adr bx, adr bn]] 72)) k 72 := fun k e => by
      obtain ⟨cs, z⟩ := k2 k e; exact ⟨cs, g3.blk z⟩
    have hb4 : Bt (fun k => (Value.slice sa (stepF F).since.length sc).ownBlock = some k) (w2.alloc (.cells #[.func (.func 42) #[] #[adr bx, adr bn]] 72)) w4 := ⟨hg4.os, hg4.tape, hg4.output, hg4.size, fun k hk hne => hg4.block k hk (fun e => hne e.symm)⟩
    have e4 := (hb4.block p (Nat.lt_of_lt_of_le (blk_lt E2.out) g3.size) (fun z => by have := (k2 p z).one ⟨_, E2.out⟩; revert this; decide)).trans (g3.blk E2.out)
    have d4 := (D2.out.gr g3).btk hb4 hk3
    have rs3 := RS2.out.gr g3
    have rs4 := rs3.bt hb4 (rs3.hy hk3 (by decide))
    have cl3 := HC2.out.bt (Bt.of (X := fun _ => False) g3) (fun _ z => z.elim)
    have cl4 := cl3.bt hb4 (fun k z _ T hT => by rw [hT.one (hk3 k z)]; decide)
    have b04 : Bt X w w4 := ((HB.out.1.mono (fun k _ z => by rw [z]; exact HX.out)).tr (HB.out.2.mono (fun k _ z => by rw [z]; exact X1.out b rfl))).tr ((Bt.of g3).tr (hb4.mono (fun k _ z => X5.out k z)))
    obtain ⟨_, _, c24, _⟩ := fd_cells e4
    have f24 := frozen_of_row w4 p 2 _ _ e4
    have hz4 := hat4
    have s24 : w.heap.size ≤ (w2.alloc (.cells #[.func (.func 42) #[] #[adr bx, adr bn]] 72)).heap.size := Nat.le_trans (HB.out.1.size) (Nat.le_trans HB.out.2.size g3.size)
    have E4 := Lib.hid e4; have D4 := Lib.hid d4; have RS4 := Lib.hid rs4; have CL4 := Lib.hid cl4; have B04 := Lib.hid b04; have O4 := Lib.hid hown4; have AT4 := Lib.hid hat4; have S24 := Lib.hid s24
    clear k2 g3 hk3 hb4 e4 d4 rs3 rs4 cl3 cl4 b04 hown4 hg4 hat4 hz4 s24 HC2 HM2 R2 RS2 E2 D2 HB
    go_wp2_with fail
    go_ret
    have gs := grown_set w4 p 2 (.slice a4 ((stepF F).since.length + 1) c4)
    have e5 := heap_setCell_same w4 p 2 _ _ (.slice a4 ((stepF F).since.length + 1) c4) E4.out
    have hb5 : Bt (fun k => k = p) w4 (w4.setCell ⟨p, 2, none⟩ (.slice a4 ((stepF F).since.length + 1) c4)) := Bt.row gs rfl
    have kp4 : ∀ k, k = p → Kd w4 k 64 := fun k z => by subst z; exact ⟨_, E4.out⟩
    have hs5 : w4.heap.size ≤ (w4.setCell ⟨p, 2, none⟩ (.slice a4 ((stepF F).since.length + 1) c4)).heap.size := hb5.size
    generalize w4.setCell ⟨p, 2, none⟩ (.slice a4 ((stepF F).since.length + 1) c4) = w5 at *
    have b05 : Bt X w w5 := B04.out.tr (hb5.mono (fun k _ z => by rw [z]; exact HX.out))
    have rs5 := (RS4.out.bt hb5 (RS4.out.hy kp4 (by decide))).wid (Z := Aft X w w5) (fun k hk => .inl hk)
    have cl5 := (CL4.out.bt hb5 (fun k z _ T hT => by rw [hT.one (kp4 k z)]; decide)).wid (Z := Aft X w w5) (fun k hk => .inl hk)
    have o5 := own_bt O4.out hb5 (fun k e z => by have := (own_kd O4.out e).one (kp4 k z); revert this; decide)
    rw [HQ.out.1, HQ.out.2.1, HQ.out.2.2] at rs5
    rw [HQ.out.2.1] at o5
    have hvl : vs.length = F.since.length := by have := o5.1; simp at this; omega
    refine ⟨rfl, FdAt.made (nb := some b) (fb := fb) (sv := .slice a4 ((stepF F).since.length + 1) c4) (vs := vs ++ [.func (.func 42) #[] #[adr bx, adr bn]]) (Aft.lt HXl.out b05.size) (.inl HX.out) (e5.trans (by rw [HPost.out]; rfl)) (by rw [HPost.out]; exact D4.out.btk hb5 kp4) (fun k e => .inl (X1.out k e)) (fun k e => .inl (X2.out k e)) (fun _ => X3.out (by simp)) (fun _ => by simp) ?_ (fun k e => ?_) ?_, b05⟩
    · rw [HPost.out, HQ.out.2.1]
      exact own_cast o5 (by simp) rfl
    · rcases AT4.out with h1 | h1
      · exact .inl (X5.out k (by rw [← h1]; exact e))
      · have h2 : k = (w2.alloc (.cells #[.func (.func 42) #[] #[adr bx, adr bn]] 72)).heap.size := by
          have h3 : (Value.slice a4 ((stepF F).since.length + 1) c4).ownBlock = some k := e
          rw [h1] at h3; injection h3 with h3; exact h3.symm
        exact .inr ⟨by rw [h2]; exact S24.out, Nat.lt_of_lt_of_le (O4.out.lt k e).2 hs5⟩
    · refine ⟨by rw [HPost.out]; exact HQ.out.1 ▸ rs5.firm, fun i hi => ?_, fun n hn => ?_⟩
      · have hs9 : (hapF F (FOp.cre s0 n0)).since = F.since ++ [(FOp.cre s0 n0)] := by rw [HPost.out]
        rw [show (hapF F (FOp.cre s0 n0)).since[i]'hi = (F.since ++ [(FOp.cre s0 n0)])[i]'(by rw [hs9] at hi; exact hi) by simp only [hs9]]
        have hi' : i < F.since.length + 1 := by rw [hs9] at hi; simpa using hi
        by_cases hlt : i < F.since.length
        · obtain ⟨v, hv1, hv2⟩ := rs5.cl i hlt
          refine ⟨v, by rw [List.getElem?_append_left (by omega)]; exact hv1, ?_⟩
          rw [List.getElem_append_left hlt]; exact hv2
        · obtain rfl : i = F.since.length := by omega
          refine ⟨_, by rw [List.getElem?_append_right (by omega), hvl, Nat.sub_self]; rfl, ?_⟩
          rw [List.getElem_append_right (Nat.le_refl _)]
          simpa using cl5
      · rw [show (hapF F (FOp.cre s0 n0)).fl = F.fl by rw [HPost.out]; exact HQ.out.2.2]
        exact rs5.files n ((hap_has hn).imp (HH.out n) id)
  | del s0 =>
    have HCl := Lib.hid (fun (W : World) b (hb1 : Bt (fun k => k = p) w W) (d1 : DirAt W (some b) F.now) => by
      obtain ⟨h20, bn, e, y2, g2⟩ := hv.bt hb1 hK
      exact (show ∀ bn', v = .func (.func 50) #[] #[adr bn'] → Calls Try.prog 50 #[.map (some b), adr bn'] W (ClPost W b (delD F.now s0)) from fun bn' e' => by
        rw [e] at e'; injection e' with _ _ e'; simp at e'
        obtain rfl := e'
        exact del1_calls W b F.now d1 s0 h20 _ g2))
    obtain ⟨h20, bn, rfl, _⟩ := id hv
    replace HCl := Lib.hid (fun W b hb1 d1 => HCl.out W b hb1 d1 bn rfl)
    clear h hv hcan hlen hnew hK kp q1 q2 q3 q4 q5 q6
    go_enter Try.func41, Try.ntmps41
    go_wp2_with (go_at_call 43; refine HSt.out.mono ?_; rintro e w1 ⟨rfl, hf1, hb1⟩; obtain ⟨nb, fb, sv, vs, e1, d1, x1, x2, x3, x4, r1, x5, rs1⟩ := hf1.opened; obtain ⟨b, rfl⟩ := nb_some (x4 HUp.out); obtain ⟨c0, _, c2, _⟩ := fd_cells e1; have hcl := HCl.out w1 b hb1 (HNow.out ▸ d1))
    refine hcl.mono ?_
    rintro e w2 ⟨rfl, d2, g2⟩
    obtain ⟨es, cc, hm⟩ := d1.map
    have hpb : p ≠ b := fun z => by subst z; exact (show Kd w1 p 64 from ⟨_, e1⟩).no hm
    have e2 := blk_far g2 e1 hpb
    have hb2 : Bt (fun k => k = b) w1 w2 := Bt.row g2 rfl
    have r2 := own_bt r1 hb2 (fun k e z => by subst z; exact (own_kd r1 e).no hm)
    have rsA := rs1.add (G := fun n => ∃ s', (FOp.del s0) = FOp.cre s' n) (fun n hn => by
      obtain ⟨s', e⟩ := hn
      obtain ⟨y1, y2⟩ := HN.out s' n e
      refine ⟨y1, ?_⟩
      rw [HQ.out.2.2]
      exact (hb1.block n (blk_lt y2) (fun z => by subst z; have := HKp.out.one ⟨_, y2⟩; revert this; decide)).trans y2)
    have rs2 := rsA.bt hb2 (fun k z => by subst z; exact ⟨fun T hT => (hT.no hm).elim, fun e => x3 (by simp) e.symm⟩)
    obtain ⟨_, _, c2', _⟩ := fd_cells e2
    obtain ⟨i0, hi, hz0, hz1, hz2⟩ := info_parts infoFn
    have R2 := Lib.hid r2; have RS2 := Lib.hid rs2; have E2 := Lib.hid e2; have D2 := Lib.hid d2; have HB := Lib.hid (And.intro hb1 hb2); have X1 := Lib.hid x1; have X2 := Lib.hid x2; have X3 := Lib.hid x3; have X5 := Lib.hid x5; have HPB := Lib.hid hpb
    obtain ⟨sa, sc, rfl⟩ := own_slice r1
    have hcl1 := HC.out.bt hb1 HK.out
    obtain ⟨es2, cc2, hm2⟩ := d2.map
    have hcl2 := hcl1.bt hb2 (fun k z _ T hT => by subst z; exact (hT.no hm).elim)
    have HC2 := Lib.hid hcl2; have HM2 := Lib.hid hm2
    clear hcl hf1 hb1 e1 d1 x1 x2 x3 x4 r1 x5 rs1 c0 c2 d2 g2 hm rsA hpb e2 hb2 r2 rs2 hcl1 hcl2 hm2
    go_wp2_with (at_builtin; refine Hid.out ?_)
    apply Lib.hid
    refine wpList_append_own_at _ rfl (.tmp 18) (.tmp 20) 62 rfl 0 72 i0 .nilFunc 1 8 Try.underlying62 hi hz0 hz1 hz2 rfl (by decide) (.slice sa (stepF F).since.length sc) (stepF F).since.length vs rfl (R2.out.alloc _) ⟨w2.heap.size, 0, none⟩ 1 1 [.func (.func 50) #[] #[adr bn]] rfl rfl (World.news_of_block (heap_alloc_new w2 _)) (by intro u hu; simp only [List.mem_cons, List.not_mem_nil, or_false] at hu; subst hu; rfl) (by unfold maxLen; omega) (by omega) (Nat.zero_le _) ?_
    intro v4 w4 hown4 hg4 _ hat4
    obtain ⟨a4, c4, rfl⟩ := own_slice hown4
    have k2 : ∀ k, (Value.slice sa (stepF F).since.length sc).ownBlock = some k → Kd w2 k 72 := fun k e => own_kd R2.out e
    have g3 : Gr w2 (w2.alloc (.cells #[.func (.func 50) #[] #[adr bn]] 72)) := Gr.al Gr.rfl' _
    have hk3 : ∀ k, (Value.slice sa (stepF F).since.length sc).ownBlock = some k → Kd (w2.alloc (.cells #[.func (.func 50) #[] #[adr bn]] 72)) k 72 := fun k e => by
      obtain ⟨cs, z⟩ := k2 k e; exact ⟨cs, g3.blk z⟩
    have hb4 : Bt (fun k => (Value.slice sa (stepF F).since.length sc).ownBlock = some k) (w2.alloc (.cells #[.func (.func 50) #[] #[adr bn]] 72)) w4 := ⟨hg4.os, hg4.tape, hg4.output, hg4.size, fun k hk hne => hg4.block k hk (fun e => hne e.symm)⟩
    have e4 := (hb4.block p (Nat.lt_of_lt_of_le (blk_lt E2.out) g3.size) (fun z => by have := (k2 p z).one ⟨_, E2.out⟩; revert this; decide)).trans (g3.blk E2.out)
    have d4 := (D2.out.gr g3).btk hb4 hk3
    have rs3 := RS2.out.gr g3
    have rs4 := rs3.bt hb4 (rs3.hy hk3 (by decide))
    have cl3 := HC2.out.bt (Bt.of (X := fun _ => False) g3) (fun _ z => z.elim)
    have cl4 := cl3.bt hb4 (fun k z _ T hT => by rw [hT.one (hk3 k z)]; decide)
    have b04 : Bt X w w4 := ((HB.out.1.mono (fun k _ z => by rw [z]; exact HX.out)).tr (HB.out.2.mono (fun k _ z => by rw [z]; exact X1.out b rfl))).tr ((Bt.of g3).tr (hb4.mono (fun k _ z => X5.out k z)))
    obtain ⟨_, _, c24, _⟩ := fd_cells e4
    have f24 := frozen_of_row w4 p 2 _ _ e4
    have hz4 := hat4
    have s24 : w.heap.size ≤ (w2.alloc (.cells #[.func (.func 50) #[] #[adr bn]] 72)).heap.size := Nat.le_trans (HB.out.1.size) (Nat.le_trans HB.out.2.size g3.size)
    have E4 := Lib.hid e4; have D4 := Lib.hid d4; have RS4 := Lib.hid rs4; have CL4 := Lib.hid cl4; have B04 := Lib.hid b04; have O4 := Lib.hid hown4; have AT4 := Lib.hid hat4; have S24 := Lib.hid s24
    clear k2 g3 hk3 hb4 e4 d4 rs3 rs4 cl3 cl4 b04 hown4 hg4 hat4 hz4 s24 HC2 HM2 R2 RS2 E2 D2 HB
    go_wp2_with fail
    go_ret
    have gs := grown_set w4 p 2 (.slice a4 ((stepF F).since.length + 1) c4)
    have e5 := heap_setCell_same w4 p 2 _ _ (.slice a4 ((stepF F).since.length + 1) c4) E4.out
    have hb5 : Bt (fun k => k = p) w4 (w4.setCell ⟨p, 2, none⟩ (.slice a4 ((stepF F).since.length + 1) c4)) := Bt.row gs rfl
    have kp4 : ∀ k, k = p → Kd w4 k 64 := fun k z => by subst z; exact ⟨_, E4.out⟩
    have hs5 : w4.heap.size ≤ (w4.setCell ⟨p, 2, none⟩ (.slice a4 ((stepF F).since.length + 1) c4)).heap.size := hb5.size
    generalize w4.setCell ⟨p, 2, none⟩ (.slice a4 ((stepF F).since.length + 1) c4) = w5 at *
    have b05 : Bt X w w5 := B04.out.tr (hb5.mono (fun k _ z => by rw [z]; exact HX.out))
    have rs5 := (RS4.out.bt hb5 (RS4.out.hy kp4 (by decide))).wid (Z := Aft X w w5) (fun k hk => .inl hk)
    have cl5 := (CL4.out.bt hb5 (fun k z _ T hT => by rw [hT.one (kp4 k z)]; decide)).wid (Z := Aft X w w5) (fun k hk => .inl hk)
    have o5 := own_bt O4.out hb5 (fun k e z => by have := (own_kd O4.out e).one (kp4 k z); revert this; decide)
    rw [HQ.out.1, HQ.out.2.1, HQ.out.2.2] at rs5
    rw [HQ.out.2.1] at o5
    have hvl : vs.length = F.since.length := by have := o5.1; simp at this; omega
    refine ⟨rfl, FdAt.made (nb := some b) (fb := fb) (sv := .slice a4 ((stepF F).since.length + 1) c4) (vs := vs ++ [.func (.func 50) #[] #[adr bn]]) (Aft.lt HXl.out b05.size) (.inl HX.out) (e5.trans (by rw [HPost.out]; rfl)) (by rw [HPost.out]; exact D4.out.btk hb5 kp4) (fun k e => .inl (X1.out k e)) (fun k e => .inl (X2.out k e)) (fun _ => X3.out (by simp)) (fun _ => by simp) ?_ (fun k e => ?_) ?_, b05⟩
    · rw [HPost.out, HQ.out.2.1]
      exact own_cast o5 (by simp) rfl
    · rcases AT4.out with h1 | h1
      · exact .inl (X5.out k (by rw [← h1]; exact e))
      · have h2 : k = (w2.alloc (.cells #[.func (.func 50) #[] #[adr bn]] 72)).heap.size := by
          have h3 : (Value.slice a4 ((stepF F).since.length + 1) c4).ownBlock = some k := e
          rw [h1] at h3; injection h3 with h3; exact h3.symm
        exact .inr ⟨by rw [h2]; exact S24.out, Nat.lt_of_lt_of_le (O4.out.lt k e).2 hs5⟩
    · refine ⟨by rw [HPost.out]; exact HQ.out.1 ▸ rs5.firm, fun i hi => ?_, fun n hn => ?_⟩
      · have hs9 : (hapF F (FOp.del s0)).since = F.since ++ [(FOp.del s0)] := by rw [HPost.out]
        rw [show (hapF F (FOp.del s0)).since[i]'hi = (F.since ++ [(FOp.del s0)])[i]'(by rw [hs9] at hi; exact hi) by simp only [hs9]]
        have hi' : i < F.since.length + 1 := by rw [hs9] at hi; simpa using hi
        by_cases hlt : i < F.since.length
        · obtain ⟨v, hv1, hv2⟩ := rs5.cl i hlt
          refine ⟨v, by rw [List.getElem?_append_left (by omega)]; exact hv1, ?_⟩
          rw [List.getElem_append_left hlt]; exact hv2
        · obtain rfl : i = F.since.length := by omega
          refine ⟨_, by rw [List.getElem?_append_right (by omega), hvl, Nat.sub_self]; rfl, ?_⟩
          rw [List.getElem_append_right (Nat.le_refl _)]
          simpa using cl5
      · rw [show (hapF F (FOp.del s0)).fl = F.fl by rw [HPost.out]; exact HQ.out.2.2]
        exact rs5.files n ((hap_has hn).imp (HH.out n) id)
  | ren s0 t0 =>
    have HCl := Lib.hid (fun (W : World) b (hb1 : Bt (fun k => k = p) w W) (d1 : DirAt W (some b) F.now) => by
      obtain ⟨h20, h21, bn, bt, e, y1, y2, g1, g2⟩ := hv.bt hb1 hK
      exact (show ∀ bn' bt', v = .func (.func 49) #[] #[adr bn', adr bt'] → Calls Try.prog 49 #[.map (some b), adr bn', adr bt'] W (ClPost W b (FOp.run F.now (.ren s0 t0))) from fun bn' bt' e' => by
        rw [e] at e'; injection e' with _ _ e'; simp at e'
        obtain ⟨rfl, rfl⟩ := e'
        exact ren1_calls W b F.now d1 (by omega) s0 t0 h20 h21 _ _ g1 g2 hcan))
    obtain ⟨h20, h21, bn, bt, rfl, _⟩ := id hv
    replace HCl := Lib.hid (fun W b hb1 d1 => HCl.out W b hb1 d1 bn bt rfl)
    clear h hv hcan hlen hnew hK kp q1 q2 q3 q4 q5 q6
    go_enter Try.func41, Try.ntmps41
    go_wp2_with (go_at_call 43; refine HSt.out.mono ?_; rintro e w1 ⟨rfl, hf1, hb1⟩; obtain ⟨nb, fb, sv, vs, e1, d1, x1, x2, x3, x4, r1, x5, rs1⟩ := hf1.opened; obtain ⟨b, rfl⟩ := nb_some (x4 HUp.out); obtain ⟨c0, _, c2, _⟩ := fd_cells e1; have hcl := HCl.out w1 b hb1 (HNow.out ▸ d1))
    refine hcl.mono ?_
    rintro e w2 ⟨rfl, d2, g2⟩
    obtain ⟨es, cc, hm⟩ := d1.map
    have hpb : p ≠ b := fun z => by subst z; exact (show Kd w1 p 64 from ⟨_, e1⟩).no hm
    have e2 := blk_far g2 e1 hpb
    have hb2 : Bt (fun k => k = b) w1 w2 := Bt.row g2 rfl
    have r2 := own_bt r1 hb2 (fun k e z => by subst z; exact (own_kd r1 e).no hm)
    have rsA := rs1.add (G := fun n => ∃ s', (FOp.ren s0 t0) = FOp.cre s' n) (fun n hn => by
      obtain ⟨s', e⟩ := hn
      obtain ⟨y1, y2⟩ := HN.out s' n e
      refine ⟨y1, ?_⟩
      rw [HQ.out.2.2]
      exact (hb1.block n (blk_lt y2) (fun z => by subst z; have := HKp.out.one ⟨_, y2⟩; revert this; decide)).trans y2)
    have rs2 := rsA.bt hb2 (fun k z => by subst z; exact ⟨fun T hT => (hT.no hm).elim, fun e => x3 (by simp) e.symm⟩)
    obtain ⟨_, _, c2', _⟩ := fd_cells e2
    obtain ⟨i0, hi, hz0, hz1, hz2⟩ := info_parts infoFn
    have R2 := Lib.hid r2; have RS2 := Lib.hid rs2; have E2 := Lib.hid e2; have D2 := Lib.hid d2; have HB := Lib.hid (And.intro hb1 hb2); have X1 := Lib.hid x1; have X2 := Lib.hid x2; have X3 := Lib.hid x3; have X5 := Lib.hid x5; have HPB := Lib.hid hpb
    obtain ⟨sa, sc, rfl⟩ := own_slice r1
    have hcl1 := HC.out.bt hb1 HK.out
    obtain ⟨es2, cc2, hm2⟩ := d2.map
    have hcl2 := hcl1.bt hb2 (fun k z _ T hT => by subst z; exact (hT.no hm).elim)
    have HC2 := Lib.hid hcl2; have HM2 := Lib.hid hm2
    clear hcl hf1 hb1 e1 d1 x1 x2 x3 x4 r1 x5 rs1 c0 c2 d2 g2 hm rsA hpb e2 hb2 r2 rs2 hcl1 hcl2 hm2
    go_wp2_with (at_builtin; refine Hid.out ?_)
    apply Lib.hid
    refine wpList_append_own_at _ rfl (.tmp 18) (.tmp 20) 62 rfl 0 72 i0 .nilFunc 1 8 Try.underlying62 hi hz0 hz1 hz2 rfl (by decide) (.slice sa (stepF F).since.length sc) (stepF F).since.length vs rfl (R2.out.alloc _) ⟨w2.heap.size, 0, none⟩ 1 1 [.func (.func 49) #[] #[adr bn, adr bt]] rfl rfl (World.news_of_block (heap_alloc_new w2 _)) (by intro u hu; simp only [List.mem_cons, List.not_mem_nil, or_false] at hu; subst hu; rfl) (by unfold maxLen; omega) (by omega) (Nat.zero_le _) ?_
    intro v4 w4 hown4 hg4 _ hat4
    obtain ⟨a4, c4, rfl⟩ := own_slice hown4
    have k2 : ∀ k, (Value.slice sa (stepF F).since.length sc).ownBlock = some k → Kd w2 k 72 := fun k e => own_kd R2.out e
    have g3 : Gr w2 (w2.alloc (.cells #[.func (.func 49) #[] #[adr bn, adr bt]] 72)) := Gr.al Gr.rfl' _
    have hk3 : ∀ k, (Value.slice sa (stepF F).since.length sc).ownBlock = some k → Kd (w2.alloc (.cells #[.func (.func 49) #[] #[adr bn, adr bt]] 72)) k 72 := fun k e => by
      obtain ⟨cs, z⟩ := k2 k e; exact ⟨cs, g3.blk z⟩
    have hb4 : Bt (fun k => (Value.slice sa (stepF F).since.length sc).ownBlock = some k) (w2.alloc (.cells #[.func (.func 49) #[] #[adr bn, adr bt]] 72)) w4 := ⟨hg4.os, hg4.tape, hg4.output, hg4.size, fun k hk hne => hg4.block k hk (fun e => hne e.symm)⟩
    have e4 := (hb4.block p (Nat.lt_of_lt_of_le (blk_lt E2.out) g3.size) (fun z => by have := (k2 p z).one ⟨_, E2.out⟩; revert this; decide)).trans (g3.blk E2.out)
    have d4 := (D2.out.gr g3).btk hb4 hk3
    have rs3 := RS2.out.gr g3
    have rs4 := rs3.bt hb4 (rs3.hy hk3 (by decide))
    have cl3 := HC2.out.bt (Bt.of (X := fun _ => False) g3) (fun _ z => z.elim)
    have cl4 := cl3.bt hb4 (fun k z _ T hT => by rw [hT.one (hk3 k z)]; decide)
    have b04 : Bt X w w4 := ((HB.out.1.mono (fun k _ z => by rw [z]; exact HX.out)).tr (HB.out.2.mono (fun k _ z => by rw [z]; exact X1.out b rfl))).tr ((Bt.of g3).tr (hb4.mono (fun k _ z => X5.out k z)))
    obtain ⟨_, _, c24, _⟩ := fd_cells e4
    have f24 := frozen_of_row w4 p 2 _ _ e4
    have hz4 := hat4
    have s24 : w.heap.size ≤ (w2.alloc (.cells #[.func (.func 49) #[] #[adr bn, adr bt]] 72)).heap.size := Nat.le_trans (HB.out.1.size) (Nat.le_trans HB.out.2.size g3.size)
    have E4 := Lib.hid e4; have D4 := Lib.hid d4; have RS4 := Lib.hid rs4; have CL4 := Lib.hid cl4; have B04 := Lib.hid b04; have O4 := Lib.hid hown4; have AT4 := Lib.hid hat4; have S24 := Lib.hid s24
    clear k2 g3 hk3 hb4 e4 d4 rs3 rs4 cl3 cl4 b04 hown4 hg4 hat4 hz4 s24 HC2 HM2 R2 RS2 E2 D2 HB
    go_wp2_with fail
    go_ret
    have gs := grown_set w4 p 2 (.slice a4 ((stepF F).since.length + 1) c4)
    have e5 := heap_setCell_same w4 p 2 _ _ (.slice a4 ((stepF F).since.length + 1) c4) E4.out
    have hb5 : Bt (fun k => k = p) w4 (w4.setCell ⟨p, 2, none⟩ (.slice a4 ((stepF F).since.length + 1) c4)) := Bt.row gs rfl
    have kp4 : ∀ k, k = p → Kd w4 k 64 := fun k z => by subst z; exact ⟨_, E4.out⟩
    have hs5 : w4.heap.size ≤ (w4.setCell ⟨p, 2, none⟩ (.slice a4 ((stepF F).since.length + 1) c4)).heap.size := hb5.size
    generalize w4.setCell ⟨p, 2, none⟩ (.slice a4 ((stepF F).since.length + 1) c4) = w5 at *
    have b05 : Bt X w w5 := B04.out.tr (hb5.mono (fun k _ z => by rw [z]; exact HX.out))
    have rs5 := (RS4.out.bt hb5 (RS4.out.hy kp4 (by decide))).wid (Z := Aft X w w5) (fun k hk => .inl hk)
    have cl5 := (CL4.out.bt hb5 (fun k z _ T hT => by rw [hT.one (kp4 k z)]; decide)).wid (Z := Aft X w w5) (fun k hk => .inl hk)
    have o5 := own_bt O4.out hb5 (fun k e z => by have := (own_kd O4.out e).one (kp4 k z); revert this; decide)
    rw [HQ.out.1, HQ.out.2.1, HQ.out.2.2] at rs5
    rw [HQ.out.2.1] at o5
    have hvl : vs.length = F.since.length := by have := o5.1; simp at this; omega
    refine ⟨rfl, FdAt.made (nb := some b) (fb := fb) (sv := .slice a4 ((stepF F).since.length + 1) c4) (vs := vs ++ [.func (.func 49) #[] #[adr bn, adr bt]]) (Aft.lt HXl.out b05.size) (.inl HX.out) (e5.trans (by rw [HPost.out]; rfl)) (by rw [HPost.out]; exact D4.out.btk hb5 kp4) (fun k e => .inl (X1.out k e)) (fun k e => .inl (X2.out k e)) (fun _ => X3.out (by simp)) (fun _ => by simp) ?_ (fun k e => ?_) ?_, b05⟩
    · rw [HPost.out, HQ.out.2.1]
      exact own_cast o5 (by simp) rfl
    · rcases AT4.out with h1 | h1
      · exact .inl (X5.out k (by rw [← h1]; exact e))
      · have h2 : k = (w2.alloc (.cells #[.func (.func 49) #[] #[adr bn, adr bt]] 72)).heap.size := by
          have h3 : (Value.slice a4 ((stepF F).since.length + 1) c4).ownBlock = some k := e
          rw [h1] at h3; injection h3 with h3; exact h3.symm
        exact .inr ⟨by rw [h2]; exact S24.out, Nat.lt_of_lt_of_le (O4.out.lt k e).2 hs5⟩
    · refine ⟨by rw [HPost.out]; exact HQ.out.1 ▸ rs5.firm, fun i hi => ?_, fun n hn => ?_⟩
      · have hs9 : (hapF F (FOp.ren s0 t0)).since = F.since ++ [(FOp.ren s0 t0)] := by rw [HPost.out]
        rw [show (hapF F (FOp.ren s0 t0)).since[i]'hi = (F.since ++ [(FOp.ren s0 t0)])[i]'(by rw [hs9] at hi; exact hi) by simp only [hs9]]
        have hi' : i < F.since.length + 1 := by rw [hs9] at hi; simpa using hi
        by_cases hlt : i < F.since.length
        · obtain ⟨v, hv1, hv2⟩ := rs5.cl i hlt
          refine ⟨v, by rw [List.getElem?_append_left (by omega)]; exact hv1, ?_⟩
          rw [List.getElem_append_left hlt]; exact hv2
        · obtain rfl : i = F.since.length := by omega
          refine ⟨_, by rw [List.getElem?_append_right (by omega), hvl, Nat.sub_self]; rfl, ?_⟩
          rw [List.getElem_append_right (Nat.le_refl _)]
          simpa using cl5
      · rw [show (hapF F (FOp.ren s0 t0)).fl = F.fl by rw [HPost.out]; exact HQ.out.2.2]
        exact rs5.files n ((hap_has hn).imp (HH.out n) id)
end Go.Proofs.Ytdopmcepfacdlaa
