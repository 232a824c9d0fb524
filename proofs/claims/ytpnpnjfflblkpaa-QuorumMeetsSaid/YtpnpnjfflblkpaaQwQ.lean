/- The law QuorumReads. -/
import Derived.Test.YtpnpnjfflblkpaaQrD
import Derived.Test.YtpnpnjfflblkpaaQwP
import Derived.Test.YtpnpnjfflblkpaaPtE
namespace Go.Proofs.Ytpnpnjfflblkpaa
open Go.RowKit Go.Maps Go.Sort Go.Shelf

/-- A node's reply, as it is read. -/
structure RepR where
  n : Int
  v : Value
  l : List Pt
instance : Inhabited RepR := ⟨⟨0, .slice none 0 0, []⟩⟩
def repC (o : RepR) : List Value := [.int .i64 o.n, o.v]
def RepOk (w : World) (o : RepR) : Prop := I64 o.n ∧ rdRow w 6 o.v o.l.length (encP o.l) ∧ o.l.length ≤ maxLen
theorem flat_filter {gl : Int → List Pt} {P : Int → Bool} : ∀ (l : List Int), (∀ k ∈ l, P k = false → gl k = []) → ((l.filter P).map gl).flatten = (l.map gl).flatten
  | [], _ => rfl
  | x :: r, h => by
    have ih := flat_filter r (fun k hk => h k (List.mem_cons_of_mem _ hk))
    cases e : P x with
    | true => rw [List.filter_cons_of_pos e, List.map_cons, List.map_cons, List.flatten_cons, List.flatten_cons, ih]
    | false => rw [List.filter_cons_of_neg (by rw [e]; decide), ih, List.map_cons, List.flatten_cons, h x (List.mem_cons_self ..) e, List.nil_append]
theorem flat_nodes (F : List Int) (gl : Int → List Pt) (h : ∀ k, k ∉ nodesOf F → gl k = []) : ((nodesOf F).map gl).flatten = allR gl 16 := by
  unfold allR upN
  refine flat_filter _ fun k hk hf => h k fun hm => ?_
  have := (List.mem_filter.1 (show k ∈ ((List.range 16).map Int.ofNat).filter (· ∈ F) from hm)).2
  rw [hf] at this
  cases this
/-- The reference is written: a read stands. -/
theorem RdAt.bto {w w' : World} {p : Nat} {nd : Int} {nv : Value} {N H : List Int} {b g r : Nat} {gv : Int → Value} {gl : Int → List Pt} (h : RdAt w p nd nv N (some b) (some g) H gv gl) (hb : Bt (fun k => k = r) w w') (hf : ∀ a m c, nv = .slice (some a) m c → 0 < N.length → a.block ≠ r)
    (hfg : ∀ k a m c, gv k = .slice (some a) m c → 0 < (gl k).length → a.block ≠ r) (hp : p ≠ r) (h1 : b ≠ r) (h2 : g ≠ r) : RdAt w' p nd nv N (some b) (some g) H gv gl :=
  ⟨h.wr.bto hb hf hp (fun e => h1 (by injection e)), ⟨hb.cell hp h.gt.c3, h.gt.got.bt hb (fun k e z => h2 (by injection e with e; rw [e, z])), fun k => (rdO.bt (r := r) ⟨h.gt.rows k, hfg k⟩ hb (fun _ e => e)).1, h.gt.nil_, h.gt.some_⟩, h.ne⟩
theorem row_below {w : World} {k n : Nat} {v : Value} {xs : List Value} (hk0 : 0 < k) (h : rdRow w k v n xs) : ∀ a m c, v = .slice (some a) m c → 0 < n → a.block < w.heap.size := fun a m c ev h0 => by
  obtain ⟨h1, a', cap, e, hc, h2⟩ := h
  obtain ⟨b, o, rfl, h4⟩ := h2 h0
  rw [ev] at e
  injection e with e1 e2 e3
  injection e1 with e1
  have hx : ∃ u, xs[0]? = some u := by
    have : 0 < xs.length := by rw [h1]; exact Nat.mul_pos h0 hk0
    exact ⟨xs[0], List.getElem?_eq_getElem this⟩
  obtain ⟨u, hu⟩ := hx
  have := World.block_lt_of_cell? w _ (h4 0 u hu)
  rw [e1]
  exact this
structure RQ (w0 w : World) (p b g r : Nat) (nd : Int) (nv nv2 : Value) (N H H2 : List Int) (gv : Int → Value) (rv : Nat → Value) (gl gl2 : Int → List Pt) : Prop where
  rd : RdAt w p nd nv N (some b) (some g) H gv gl
  rq : RqAt w r nd nv2 N H2 rv gl2
  gr : Gr w0 w
  far : ∀ a m c, nv = .slice (some a) m c → 0 < N.length → a.block ≠ r
  farg : ∀ k a m c, gv k = .slice (some a) m c → 0 < (gl k).length → a.block ≠ r
  pr : p ≠ r
  br : b ≠ r
  gr2 : g ≠ r
  nb : w0.heap.size ≤ b
  ng : w0.heap.size ≤ g
  nr : w0.heap.size ≤ r
def upL (gl : Int → List Pt) (N H : List Int) (n : Int) (l : List Pt) (k : Int) : List Pt := if k = n ∧ ackB N H n then sortP l else gl k
section
variable {w0 w w' : World} {p b g r : Nat} {nd : Int} {nv nv2 : Value} {N H H2 : List Int} {gv : Int → Value} {rv : Nat → Value} {gl gl2 : Int → List Pt}
theorem RQ.grow (h : RQ w0 w p b g r nd nv nv2 N H H2 gv rv gl gl2) (hg : Gr w w') : RQ w0 w' p b g r nd nv nv2 N H H2 gv rv gl gl2 :=
  ⟨h.rd.gr hg, h.rq.gr hg, h.gr.tr hg, h.far, h.farg, h.pr, h.br, h.gr2, h.nb, h.ng, h.nr⟩
theorem upL_yes {n : Int} {l : List Pt} (hk : ackB N H n) : upL gl N H n l = fun k => if k = n then sortP l else gl k := by
  funext k; unfold upL
  by_cases e : k = n <;> simp [e, hk]
theorem upL_no {n : Int} {l : List Pt} (hk : ¬ ackB N H n) : upL gl N H n l = gl := by
  funext k; unfold upL; simp [hk]
theorem RQ.ans (h : RQ w0 w p b g r nd nv nv2 N H H2 gv rv gl gl2) {n : Int} {l : List Pt} (hb : Bt (fun k => some b = some k ∨ some g = some k) w w')
    (ha : if ackB N H n then ∃ v, (∀ a m c, v = .slice (some a) m c → 0 < (sortP l).length → w.heap.size ≤ a.block) ∧ RdAt w' p nd nv N (some b) (some g) (H ++ [n]) (fun k => if k = n then v else gv k) (fun k => if k = n then sortP l else gl k) else RdAt w' p nd nv N (some b) (some g) H gv gl) :
    ∃ gv', RQ w0 w' p b g r nd nv nv2 N (ackH N H n) H2 gv' rv (upL gl N H n l) gl2 := by
  have hq := h.rq.btm hb (fun k e => by
    rcases e with e | e <;> (injection e with e; rw [← e])
    · exact h.rd.wr.map.map
    · exact h.rd.gt.got.map)
  have hg := hb.gr h.gr (fun k e => by
    rcases e with e | e <;> (injection e with e; rw [← e])
    · exact h.nb
    · exact h.ng)
  unfold ackH
  by_cases hk : ackB N H n
  · rw [if_pos hk] at ha ⊢
    rw [upL_yes hk]
    obtain ⟨v, hf, hd⟩ := ha
    have hr := World.block_lt_of_cell? w _ h.rq.c0
    refine ⟨_, hd, hq, hg, h.far, fun k a m c e h0 => ?_, h.pr, h.br, h.gr2, h.nb, h.ng, h.nr⟩
    by_cases ek : k = n
    · simp only [if_pos ek] at e h0
      have := hf a m c e h0
      simp only at hr
      omega
    · simp only [if_neg ek] at e h0
      exact h.farg k a m c e h0
  · rw [if_neg hk] at ha ⊢
    rw [upL_no hk]
    exact ⟨gv, ha, hq, hg, h.far, h.farg, h.pr, h.br, h.gr2, h.nb, h.ng, h.nr⟩
theorem RQ.ref (h : RQ w0 w p b g r nd nv nv2 N H H2 gv rv gl gl2) {n : Int} {l : List Pt} (hb : Bt (fun k => k = r) w w')
    (ha : if ackB N H2 n then ∃ rv', RqAt w' r nd nv2 N (H2 ++ [n]) rv' (fun k => if k = n then sortP l else gl2 k) else RqAt w' r nd nv2 N H2 rv gl2) :
    ∃ rv', RQ w0 w' p b g r nd nv nv2 N H (ackH N H2 n) gv rv' gl (upL gl2 N H2 n l) := by
  have hd := h.rd.bto hb h.far h.farg h.pr h.br h.gr2
  have hg := hb.gr h.gr (fun k e => by rw [e]; exact h.nr)
  unfold ackH
  by_cases hk : ackB N H2 n
  · rw [if_pos hk] at ha ⊢
    rw [upL_yes hk]
    obtain ⟨rv', ha⟩ := ha
    exact ⟨rv', hd, ha, hg, h.far, h.farg, h.pr, h.br, h.gr2, h.nb, h.ng, h.nr⟩
  · rw [if_neg hk] at ha ⊢
    rw [upL_no hk]
    exact ⟨rv, hd, ha, hg, h.far, h.farg, h.pr, h.br, h.gr2, h.nb, h.ng, h.nr⟩
theorem RQ.flat (h : RQ w0 w p b g r nd nv nv2 N H H2 gv rv gl gl2) {F : List Int} (e : nodesOf F = N) : (N.map gl).flatten = allR gl 16 := by
  subst e
  exact flat_nodes F gl fun k hk => h.rd.gt.gl_nil (fun hh => hk (h.rd.wr.sub k hh))
theorem upL_len {n : Int} {l : List Pt} (h : ∀ k, (gl k).length ≤ 10) (hl : l.length ≤ 10) : ∀ k, (upL gl N H n l k).length ≤ 10 := fun k => by
  unfold upL
  split
  · exact Nat.le_trans (sortP_len l) hl
  · exact h k
end
set_option maxRecDepth 100000 in
set_option maxHeartbeats 8000000 in
theorem reads_law (need : Int) (v1 : Value) (ns : List Int) (v2 : Value) (ops : List RepR) (w : World) (hv1 : rdRow w 1 v1 ns.length (encI ns)) (hl1 : ns.length ≤ maxLen) (hv2 : rdRow w 2 v2 ops.length (ops.flatMap repC)) (hops : ∀ o ∈ ops, RepOk w o) (hl2 : ops.length ≤ maxLen) :
    Calls Try.prog 6 #[.int .i64 need, v1, v2] w fun e w' => e = .returned (.bool true) ∧ Gr w w' := by
  obtain ⟨aa, ac, rfl⟩ : ∃ a c, v2 = .slice a ops.length c := by obtain ⟨_, a, c, e, _⟩ := hv2; exact ⟨a, c, e⟩
  have HV1 := Lib.hid hv1; have HV2 := Lib.hid hv2; have HOp := Lib.hid hops
  unfold maxLen at hl2
  clear hv1 hv2 hops
  go_enter Try.func6, Try.ntmps6
  go_wp2_with fail
  refine (awake_calls _).mono ?_
  rintro e w1 ⟨rfl, hg1⟩
  have G1 := Lib.hid hg1
  clear hg1
  go_wp2_with fail
  refine (few_calls v1 ns _ (HV1.out.gr G1.out) hl1).mono ?_
  rintro e w2 ⟨vf, rfl, hf, rfl⟩
  have hlf : (ns.take 12).length ≤ 12 := List.length_take_le 12 ns
  obtain ⟨F, eF⟩ : ∃ F, ns.take 12 = F := ⟨_, rfl⟩
  rw [eF] at hf hlf
  have HF := Lib.hid hf
  clear hf eF
  go_wp2_with fail
  refine (newread_calls need vf F _ HF.out (by omega)).mono ?_
  rintro e w3 ⟨p, nv, b, g, rfl, ha, hp, hb, hgg, hg⟩
  have HW := Lib.hid ha; have HB := Lib.hid hb; have HGg := Lib.hid hgg; have G3 := Lib.hid hg
  clear ha hp hb hgg hg
  go_wp2_with fail
  refine (rnew_calls need vf F _ (HF.out.gr G3.out) (by omega)).mono ?_
  rintro e w4 ⟨r, nv2, rfl, hq, hr, hg⟩
  have hN := nodesOf_len F
  have hNd := nodesOf_nodup F
  have hmx := mx_pos need
  obtain ⟨N, eN⟩ : ∃ N, nodesOf F = N := ⟨_, rfl⟩
  obtain ⟨nd, end_⟩ : ∃ nd, mx need 1 = nd := ⟨_, rfl⟩
  rw [eN, end_] at HW hq
  rw [eN] at hN hNd
  rw [end_] at hmx
  have EN := Lib.hid eN
  have HNd := Lib.hid hNd
  have Hmx := Lib.hid hmx
  have H0 := Lib.hid (show RQ w w4 p b g r nd nv nv2 N [] [] (fun _ => .slice none 0 0) (fun _ => .slice none 0 0) (fun _ => []) (fun _ => []) from by
    have hlp := World.block_lt_of_cell? w3 _ HW.out.wr.c0
    have hlb := HW.out.wr.map.lt b rfl
    have hlg := HW.out.gt.got.lt g rfl
    simp only at hlp
    refine ⟨HW.out.gr hg, hq, (G1.out.tr G3.out).tr hg, fun a m c e h0 => ?_, fun k a m c e h0 => absurd h0 (by decide), by omega, by omega, by omega, Nat.le_trans G1.out.size HB.out, Nat.le_trans G1.out.size HGg.out, Nat.le_trans (G1.out.tr G3.out).size hr⟩
    have := row_below (by decide) HW.out.wr.row a m c e h0
    omega)
  have HL0 := Lib.hid (show AckL N [] from ⟨fun k h => (by cases h), List.nodup_nil⟩)
  have HG0 := Lib.hid (show ∀ k : Int, ((fun _ => []) k : List Pt).length ≤ 10 from fun k => Nat.zero_le _)
  clear HW HB HGg G1 G3 hq hr hg hNd hmx eN end_ HF HV1
  go_wp2_with fail
  go_loopw [11] (fun iv wr => ∃ (i : Nat) (H : List Int) (gv : Int → Value) (rv : Nat → Value) (gl : Int → List Pt), i ≤ ops.length ∧ i ≤ 8 ∧ H.length ≤ i ∧ iv = .int .i64 i ∧ Hid (AckL N H) ∧ Hid (∀ k, (gl k).length ≤ 10) ∧ Hid (RQ w wr p b g r nd nv nv2 N H H gv rv gl gl)) (fun iv _ => ops.length - (intOf iv).toNat)
  case atStart => exact ⟨0, [], _, _, _, Nat.zero_le _, Nat.zero_le _, Nat.le_refl _, rfl, HL0, HG0, H0⟩
  case round =>
    obtain ⟨i, H, gv, rv, gl, hi1, hi2, hH, rfl, HL, HG, HQ⟩ := hrel
    clear H0 HL0 HG0
    by_cases hlt : i < ops.length ∧ i < 8
    · obtain ⟨hl1', hl2'⟩ := hlt
      have hk1 : (i : Int) < ops.length := by omega
      have hk2 : (i : Int) < 8 := by omega
      obtain ⟨ba, oa, _, e1, _, hrg⟩ := rd_range repC 2 (fun _ => rfl) HV2.out (by omega)
      replace e1 := (Value.slice.inj e1).1
      subst e1
      have hok := HOp.out _ (List.getElem_mem hl1')
      have hr := hrg i hl1'
      obtain ⟨o, eo⟩ : ∃ o, ops[i] = o := ⟨_, rfl⟩
      rw [eo] at hok hr
      obtain ⟨n, ov, lo⟩ := o
      obtain ⟨hI, hrow, hlo⟩ := hok
      simp only at hI hrow hlo
      obtain ⟨oa1, oc1, eov⟩ : ∃ a c, ov = .slice a lo.length c := by obtain ⟨_, a, c, e, _⟩ := hrow; exact ⟨a, c, e⟩
      subst eov
      have k0 : _ = some (Value.int .i64 n) := keepc HQ.out.gr (hr 0 _ rfl)
      have k1 : _ = some (Value.slice oa1 lo.length oc1) := keepc HQ.out.gr (hr 1 _ rfl)
      rw [Nat.add_zero] at k0
      have HI := Lib.hid hI
      have Hlo := Lib.hid hlo
      have Hrow := Lib.hid (hrow.gr HQ.out.gr)
      clear hrg eo hr hI hrow hlo
      have HX := Lib.hid HQ.out
      go_wp2_with fail
      refine (points_calls (.slice oa1 lo.length oc1) lo _ Hrow.out Hlo.out).mono ?_
      rintro e w5 ⟨vp, rfl, hop, hgp⟩
      have hL10 := ten_len lo
      have hrlt := World.block_lt_of_cell? _ _ HX.out.rq.c0
      have RO := Lib.hid (rdO_own hop (r := r) hrlt)
      replace HX := Lib.hid (HX.out.grow hgp)
      obtain ⟨L, eL⟩ : ∃ L, tenP lo = L := ⟨_, rfl⟩
      rw [eL] at hL10 RO
      clear hop hgp eL k0 k1 hrlt HQ
      obtain ⟨d, ed⟩ : ∃ d, decide (ackB N H n) = d := ⟨_, rfl⟩
      have Hd := Lib.hid ed
      have hbd : (d != d) = false := by cases d <;> rfl
      clear ed
      go_wp2_with fail
      refine (answer2_calls _ p nd nv N (some b) (some g) H gv gl HX.out.rd (by omega) (by omega) n HI.out vp L RO.out.1 (by omega)).mono ?_
      rintro e w6 ⟨rfl, hb6, ha6⟩
      obtain ⟨gv', h6⟩ := HX.out.ans hb6 ha6
      have RO6 := Lib.hid (show rdO r w6 6 vp L.length (encP L) from ⟨rd_map RO.out.1 hb6 (fun k e => by
        rcases e with e | e <;> (injection e with e; rw [← e])
        · exact HX.out.rd.wr.map.map
        · exact HX.out.rd.gt.got.map), RO.out.2⟩)
      replace HX := Lib.hid h6
      rw [Hd.out]
      clear hb6 ha6 h6 RO
      go_wp2_with fail
      refine (ranswer_calls _ r nd nv2 N H rv gl HX.out.rq (by omega) n vp L RO6.out (by omega)).mono ?_
      rintro e w7 ⟨rfl, hb7, ha7⟩
      obtain ⟨rv', h7⟩ := HX.out.ref hb7 ha7
      replace HX := Lib.hid h7
      rw [Hd.out]
      clear hb7 ha7 h7 RO6
      have hLen := ackH_len N H n
      have HL2 := Lib.hid (HL.out.ack n)
      have HG2 := Lib.hid (upL_len (N := N) (H := H) (n := n) HG.out hL10)
      have HFl := Lib.hid (HX.out.flat EN.out)
      obtain ⟨J, eJ⟩ : ∃ J, ackH N H n = J := ⟨_, rfl⟩
      obtain ⟨ml, em⟩ : ∃ ml, upL gl N H n L = ml := ⟨_, rfl⟩
      rw [eJ] at HX HL2 hLen
      rw [em] at HX HG2 HFl
      have HTl := Lib.hid (HL2.out.len HNd.out)
      have hal := allR_le ml 10 HG2.out 16
      have hsum : sumG N ml ≤ 100000 := by unfold sumG; rw [HFl.out]; omega
      have hso := sortP_len (allR ml 16)
      have HGm := Lib.hid (fun k => Nat.le_trans (HG2.out k) (by decide : 10 ≤ 1000))
      have HGn := Lib.hid (fun k => Nat.le_trans (HG2.out k) (by decide : 10 ≤ 100000))
      have HRep := Lib.hid (show repL N ml n = rrepL N ml n by unfold repL rrepL; rw [HFl.out])
      have hrl : (rrepL N ml n).length ≤ 1000000 := by
        unfold rrepL
        split
        · exact Nat.le_trans (List.length_filter_le _ _) (by omega)
        · exact Nat.zero_le _
      obtain ⟨t, et⟩ : ∃ t, decide (nd ≤ (J.length : Int)) = t := ⟨_, rfl⟩
      have Ht := Lib.hid et
      have Ht2 := Lib.hid (show decide (0 < nd ∧ nd ≤ (J.length : Int)) = t by rw [← et]; have := Hmx.out; simp [this])
      have Hbt := Lib.hid (show (t != t) = false by cases t <;> rfl)
      clear HL HG eJ em et
      (try rw [hbd])
      go_wp2_with fail
      refine (merged_calls _ p nd nv N (some b) (some g) J gv' ml HX.out.rd (by omega) hsum).mono ?_
      rintro e wa ⟨va, rfl, hoa, hga⟩
      rw [HFl.out] at hoa
      have RA := Lib.hid (rdRow_of_own hoa)
      replace HX := Lib.hid (HX.out.grow hga)
      clear hoa hga
      go_wp2_with fail
      refine (rqmerged_calls _ r nd nv2 N J rv' ml HX.out.rq HGm.out).mono ?_
      rintro e wb ⟨vb, rfl, hob, hgb⟩
      replace RA := Lib.hid (RA.out.gr hgb)
      have RB := Lib.hid (rdRow_of_own hob)
      replace HX := Lib.hid (HX.out.grow hgb)
      clear hob hgb
      go_wp2_with fail
      refine (samep_calls va vb (sortP (allR ml 16)) (sortP (allR ml 16)) _ RA.out RB.out (by omega)).mono ?_
      rintro e wc ⟨rfl, hgc⟩
      replace HX := Lib.hid (HX.out.grow hgc)
      rw [decide_eq_true (rfl : (sortP (allR ml 16)) = (sortP (allR ml 16)))]
      clear hgc RA RB
      go_wp2_with fail
      refine (repair_calls _ p nd nv N (some b) (some g) J gv' ml HX.out.rd (by omega) hsum HGn.out n HI.out).mono ?_
      rintro e wa ⟨va, rfl, hoa, hga⟩
      rw [HRep.out] at hoa
      have RA := Lib.hid (rdRow_of_own hoa)
      replace HX := Lib.hid (HX.out.grow hga)
      clear hoa hga
      go_wp2_with fail
      refine (rqrepair_calls _ r nd nv2 N J rv' ml HX.out.rq (by omega) HGm.out n).mono ?_
      rintro e wb ⟨vb, rfl, hob, hgb⟩
      replace RA := Lib.hid (RA.out.gr hgb)
      have RB := Lib.hid (rdRow_of_own hob)
      replace HX := Lib.hid (HX.out.grow hgb)
      clear hob hgb
      go_wp2_with fail
      refine (samep_calls va vb (rrepL N ml n) (rrepL N ml n) _ RA.out RB.out (by omega)).mono ?_
      rintro e wc ⟨rfl, hgc⟩
      replace HX := Lib.hid (HX.out.grow hgc)
      rw [decide_eq_true (rfl : (rrepL N ml n) = (rrepL N ml n))]
      clear hgc RA RB
      go_wp2_with fail
      refine (rhave_calls _ p nd nv N (some b) J HX.out.rd.wr (by omega)).mono ?_
      rintro e wa ⟨va, rfl, hoa, hga⟩
      skip
      have RA := Lib.hid (rdRow_of_own hoa)
      replace HX := Lib.hid (HX.out.grow hga)
      clear hoa hga
      go_wp2_with fail
      refine (rqhave_calls _ r nd nv2 N J rv' ml HX.out.rq (by omega) true).mono ?_
      rintro e wb ⟨vb, rfl, hob, hgb⟩
      replace RA := Lib.hid (RA.out.gr hgb)
      have RB := Lib.hid (rdRow_of_own hob)
      replace HX := Lib.hid (HX.out.grow hgb)
      clear hob hgb
      go_wp2_with fail
      refine (same_calls va vb (thoseL N J true) (thoseL N J true) _ RA.out RB.out (by have := thoseL_len N J true; omega)).mono ?_
      rintro e wc ⟨rfl, hgc⟩
      replace HX := Lib.hid (HX.out.grow hgc)
      rw [decide_eq_true (rfl : (thoseL N J true) = (thoseL N J true))]
      clear hgc RA RB
      go_wp2_with fail
      refine (rmissing_calls _ p nd nv N (some b) J HX.out.rd.wr (by omega)).mono ?_
      rintro e wa ⟨va, rfl, hoa, hga⟩
      skip
      have RA := Lib.hid (rdRow_of_own hoa)
      replace HX := Lib.hid (HX.out.grow hga)
      clear hoa hga
      go_wp2_with fail
      refine (rqhave_calls _ r nd nv2 N J rv' ml HX.out.rq (by omega) false).mono ?_
      rintro e wb ⟨vb, rfl, hob, hgb⟩
      replace RA := Lib.hid (RA.out.gr hgb)
      have RB := Lib.hid (rdRow_of_own hob)
      replace HX := Lib.hid (HX.out.grow hgb)
      clear hob hgb
      go_wp2_with fail
      refine (same_calls va vb (thoseL N J false) (thoseL N J false) _ RA.out RB.out (by have := thoseL_len N J false; omega)).mono ?_
      rintro e wc ⟨rfl, hgc⟩
      replace HX := Lib.hid (HX.out.grow hgc)
      rw [decide_eq_true (rfl : (thoseL N J false) = (thoseL N J false))]
      clear hgc RA RB
      go_wp2_with fail
      obtain ⟨wq0, ewq⟩ : ∃ z, wc = z := ⟨_, rfl⟩
      subst ewq
      refine region_start (S := fun w' => Gr wc w') (by kernel_rfl) (by exact Gr.dr Gr.rfl') (fun wz hz0 hHeld => ?_)
      simp only [List.size_toArray, List.length_cons, List.length_nil, Nat.reduceAdd]
      refine wpAnyH_take (i := 0) (oi := ?_) (v := ?_) ?_ (by kernel_rfl) (by kernel_rfl) (by kernel_rfl) ?_ ?_ (by assumption) ?_; rotate_left 2; (focus (simp only [List.getElem?_toArray, List.getElem?_cons_zero]; rfl)); (focus (exact fun _ _ _ h => h)); first | (focus (refine Or.inl ⟨by rfl, ?_⟩; intro w hSw; (try dsimp only at hSw); (try dsimp only [Array.getD]); go_simp; (try with_reducible rfl))) | (focus (refine Or.inr ⟨by rfl, ?_⟩; rfl)) | fail "op 0"
      try simp only [Act.put, List.setIfInBounds_toArray, List.set_cons_zero, List.set_cons_succ]
      refine wpAnyH_take (i := 1) (oi := ?_) (v := ?_) ?_ (by kernel_rfl) (by kernel_rfl) (by kernel_rfl) ?_ ?_ (by assumption) ?_; rotate_left 2; (focus (simp only [List.getElem?_toArray, List.getElem?_cons_succ, List.getElem?_cons_zero]; rfl)); (focus (exact fun _ _ _ h => h)); first | (focus (refine Or.inl ⟨by rfl, ?_⟩; intro w hSw; (try dsimp only at hSw); (try dsimp only [Array.getD]); go_simp; (try with_reducible rfl))) | (focus (refine Or.inr ⟨by rfl, ?_⟩; rfl)) | fail "op 1"
      try simp only [Act.put, List.setIfInBounds_toArray, List.set_cons_zero, List.set_cons_succ]
      refine wpAnyH_take (i := 2) (oi := ?_) (v := ?_) ?_ (by kernel_rfl) (by kernel_rfl) (by kernel_rfl) ?_ ?_ (by assumption) ?_; rotate_left 2; (focus (simp only [List.getElem?_toArray, List.getElem?_cons_succ, List.getElem?_cons_zero]; rfl)); (focus (exact fun _ _ _ h => h)); first | (focus (refine Or.inl ⟨by rfl, ?_⟩; intro w hSw; (try dsimp only at hSw); (try dsimp only [Array.getD]); go_simp; (try with_reducible rfl))) | (focus (refine Or.inr ⟨by rfl, ?_⟩; rfl)) | fail "op 2"
      try simp only [Act.put, List.setIfInBounds_toArray, List.set_cons_zero, List.set_cons_succ]
      refine wpAnyH_take (i := 3) (oi := ?_) (v := ?_) ?_ (by kernel_rfl) (by kernel_rfl) (by kernel_rfl) ?_ ?_ (by assumption) ?_; rotate_left 2; (focus (simp only [List.getElem?_toArray, List.getElem?_cons_succ, List.getElem?_cons_zero]; rfl)); (focus (exact fun _ _ _ h => h)); first | (focus (refine Or.inl ⟨by rfl, ?_⟩; intro w hSw; (try dsimp only at hSw); (try dsimp only [Array.getD]); go_simp; (try with_reducible rfl))) | (focus (refine Or.inr ⟨by rfl, ?_⟩; rfl)) | fail "op 3"
      try simp only [Act.put, List.setIfInBounds_toArray, List.set_cons_zero, List.set_cons_succ]
      refine wpAnyH_take (i := 4) (oi := ?_) (v := ?_) ?_ (by kernel_rfl) (by kernel_rfl) (by kernel_rfl) ?_ ?_ (by assumption) ?_; rotate_left 2; (focus (simp only [List.getElem?_toArray, List.getElem?_cons_succ, List.getElem?_cons_zero]; rfl)); (focus (exact fun _ _ _ h => h)); first | (focus (refine Or.inl ⟨by rfl, ?_⟩; intro w hSw; (try dsimp only at hSw); (try dsimp only [Array.getD]); go_simp; (try with_reducible rfl))) | (focus (refine Or.inr ⟨by rfl, ?_⟩; rfl)) | fail "op 4"
      try simp only [Act.put, List.setIfInBounds_toArray, List.set_cons_zero, List.set_cons_succ]
      refine wpAnyH_take (i := 5) (oi := ?_) (v := ?_) ?_ (by kernel_rfl) (by kernel_rfl) (by kernel_rfl) ?_ ?_ (by assumption) ?_; rotate_left 2; (focus (simp only [List.getElem?_toArray, List.getElem?_cons_succ, List.getElem?_cons_zero]; rfl)); (focus (exact fun _ _ _ h => h)); first | (focus (refine Or.inl ⟨by rfl, ?_⟩; intro w hSw; (try dsimp only at hSw); (try dsimp only [Array.getD]); go_simp; (try with_reducible rfl))) | (focus (refine Or.inr ⟨by rfl, ?_⟩; rfl)) | fail "op 5"
      try simp only [Act.put, List.setIfInBounds_toArray, List.set_cons_zero, List.set_cons_succ]
      refine wpAnyH_take (i := 6) (oi := ?_) (v := ?_) ?_ (by kernel_rfl) (by kernel_rfl) (by kernel_rfl) ?_ ?_ (by assumption) ?_; rotate_left 2; (focus (simp only [List.getElem?_toArray, List.getElem?_cons_succ, List.getElem?_cons_zero]; rfl)); (focus (exact fun _ _ _ h => h)); first | (focus (refine Or.inl ⟨by rfl, ?_⟩; intro w hSw; (try dsimp only at hSw); (try dsimp only [Array.getD]); go_simp; (try with_reducible rfl))) | (focus (refine Or.inr ⟨by rfl, ?_⟩; rfl)) | fail "op 6"
      try simp only [Act.put, List.setIfInBounds_toArray, List.set_cons_zero, List.set_cons_succ]
      refine wpAnyH_take (i := 7) (oi := ?_) (v := ?_) ?_ (by kernel_rfl) (by kernel_rfl) (by kernel_rfl) ?_ ?_ (by assumption) ?_; rotate_left 2; (focus (simp only [List.getElem?_toArray, List.getElem?_cons_succ, List.getElem?_cons_zero]; rfl)); (focus (exact fun _ _ _ h => h)); first | (focus (refine Or.inl ⟨by rfl, ?_⟩; intro w hSw; (try dsimp only at hSw); (try dsimp only [Array.getD]); go_simp; (try with_reducible rfl))) | (focus (refine Or.inr ⟨by rfl, ?_⟩; rfl)) | fail "op 7"
      try simp only [Act.put, List.setIfInBounds_toArray, List.set_cons_zero, List.set_cons_succ]
      refine wpAnyH_take (i := 8) (oi := ?_) (v := ?_) ?_ (by kernel_rfl) (by kernel_rfl) (by kernel_rfl) ?_ ?_ (by assumption) ?_; rotate_left 2; (focus (simp only [List.getElem?_toArray, List.getElem?_cons_succ, List.getElem?_cons_zero]; rfl)); (focus (exact fun _ _ _ h => h)); first | (focus (refine Or.inl ⟨by rfl, ?_⟩; intro w hSw; (try dsimp only at hSw); (try dsimp only [Array.getD]); go_simp; (try with_reducible rfl))) | (focus (refine Or.inr ⟨by rfl, ?_⟩; rfl)) | fail "op 8"
      try simp only [Act.put, List.setIfInBounds_toArray, List.set_cons_zero, List.set_cons_succ]
      refine wpAnyH_take (i := 9) (oi := ?_) (v := ?_) ?_ (by kernel_rfl) (by kernel_rfl) (by kernel_rfl) ?_ ?_ (by assumption) ?_; rotate_left 2; (focus (simp only [List.getElem?_toArray, List.getElem?_cons_succ, List.getElem?_cons_zero]; rfl)); (focus (exact fun _ _ _ h => h)); first | (focus (refine Or.inl ⟨by rfl, ?_⟩; intro w hSw; (try dsimp only at hSw); (try dsimp only [Array.getD]); go_simp; (try with_reducible rfl))) | (focus (refine Or.inr ⟨by rfl, ?_⟩; rfl)) | fail "op 9"
      try simp only [Act.put, List.setIfInBounds_toArray, List.set_cons_zero, List.set_cons_succ]
      refine wpAnyH_take (i := 10) (oi := ?_) (v := ?_) ?_ (by kernel_rfl) (by kernel_rfl) (by kernel_rfl) ?_ ?_ (by assumption) ?_; rotate_left 2; (focus (simp only [List.getElem?_toArray, List.getElem?_cons_succ, List.getElem?_cons_zero]; rfl)); (focus (exact fun _ _ _ h => h)); first | (focus (refine Or.inl ⟨by rfl, ?_⟩; intro w hSw; (try dsimp only at hSw); (try dsimp only [Array.getD]); go_simp; (try with_reducible rfl))) | (focus (refine Or.inr ⟨by rfl, ?_⟩; rfl)) | fail "op 10"
      try simp only [Act.put, List.setIfInBounds_toArray, List.set_cons_zero, List.set_cons_succ]
      refine wpAnyH_take (i := 11) (oi := ?_) (v := ?_) ?_ (by kernel_rfl) (by kernel_rfl) (by kernel_rfl) ?_ ?_ (by assumption) ?_; rotate_left 2; (focus (simp only [List.getElem?_toArray, List.getElem?_cons_succ, List.getElem?_cons_zero]; rfl)); (focus (exact fun _ _ _ h => h)); first | (focus (refine Or.inl ⟨by rfl, ?_⟩; intro w hSw; (try dsimp only at hSw); (try dsimp only [Array.getD]); go_simp; (try with_reducible rfl))) | (focus (refine Or.inr ⟨by rfl, ?_⟩; rfl)) | fail "op 11"
      try simp only [Act.put, List.setIfInBounds_toArray, List.set_cons_zero, List.set_cons_succ]
      refine wpAnyH_take (i := 12) (oi := ?_) (v := ?_) ?_ (by kernel_rfl) (by kernel_rfl) (by kernel_rfl) ?_ ?_ (by assumption) ?_; rotate_left 2; (focus (simp only [List.getElem?_toArray, List.getElem?_cons_succ, List.getElem?_cons_zero]; rfl)); (focus (exact fun _ _ _ h => h)); first | (focus (refine Or.inl ⟨by rfl, ?_⟩; intro w hSw; (try dsimp only at hSw); (try dsimp only [Array.getD]); go_simp; (try with_reducible rfl))) | (focus (refine Or.inr ⟨by rfl, ?_⟩; rfl)) | fail "op 12"
      try simp only [Act.put, List.setIfInBounds_toArray, List.set_cons_zero, List.set_cons_succ]
      refine wpAnyH_take (i := 13) (oi := ?_) (v := ?_) ?_ (by kernel_rfl) (by kernel_rfl) (by kernel_rfl) ?_ ?_ (by assumption) ?_; rotate_left 2; (focus (simp only [List.getElem?_toArray, List.getElem?_cons_succ, List.getElem?_cons_zero]; rfl)); (focus (exact fun _ _ _ h => h)); first | (focus (refine Or.inl ⟨by rfl, ?_⟩; intro w hSw; (try dsimp only at hSw); (try dsimp only [Array.getD]); go_simp; (try with_reducible rfl))) | (focus (refine Or.inr ⟨by rfl, ?_⟩; rfl)) | fail "op 13"
      try simp only [Act.put, List.setIfInBounds_toArray, List.set_cons_zero, List.set_cons_succ]
      refine wpAnyH_take (i := 14) (oi := ?_) (v := ?_) ?_ (by kernel_rfl) (by kernel_rfl) (by kernel_rfl) ?_ ?_ (by assumption) ?_; rotate_left 2; (focus (simp only [List.getElem?_toArray, List.getElem?_cons_succ, List.getElem?_cons_zero]; rfl)); (focus (exact fun _ _ _ h => h)); first | (focus (refine Or.inl ⟨by rfl, ?_⟩; intro w hSw; (try dsimp only at hSw); (try dsimp only [Array.getD]); go_simp; (try with_reducible rfl))) | (focus (refine Or.inr ⟨by rfl, ?_⟩; rfl)) | fail "op 14"
      try simp only [Act.put, List.setIfInBounds_toArray, List.set_cons_zero, List.set_cons_succ]
      refine wpAnyH_take (i := 15) (oi := ?_) (v := ?_) ?_ (by kernel_rfl) (by kernel_rfl) (by kernel_rfl) ?_ ?_ (by assumption) ?_; rotate_left 2; (focus (simp only [List.getElem?_toArray, List.getElem?_cons_succ, List.getElem?_cons_zero]; rfl)); (focus (exact fun _ _ _ h => h)); first | (focus (refine Or.inl ⟨by rfl, ?_⟩; intro w hSw; (try dsimp only at hSw); (try dsimp only [Array.getD]); go_simp; (try with_reducible rfl))) | (focus (refine Or.inr ⟨by rfl, ?_⟩; rfl)) | fail "op 15"
      try simp only [Act.put, List.setIfInBounds_toArray, List.set_cons_zero, List.set_cons_succ]
      refine wpAnyH_take (i := 17) (oi := ?_) (v := ?_) ?_ (by kernel_rfl) (by kernel_rfl) (by kernel_rfl) ?_ ?_ (by assumption) ?_; rotate_left 2; (focus (simp only [List.getElem?_toArray, List.getElem?_cons_succ, List.getElem?_cons_zero]; rfl)); (focus (exact fun _ _ _ h => h)); first | (focus (refine Or.inl ⟨by rfl, ?_⟩; intro w hSw; (try dsimp only at hSw); (try dsimp only [Array.getD]); go_simp; (try with_reducible rfl))) | (focus (refine Or.inr ⟨by rfl, ?_⟩; rfl)) | fail "op 17"
      try simp only [Act.put, List.setIfInBounds_toArray, List.set_cons_zero, List.set_cons_succ]
      refine wpAnyH_take (i := 20) (oi := ?_) (v := ?_) ?_ (by kernel_rfl) (by kernel_rfl) (by kernel_rfl) ?_ ?_ (by assumption) ?_; rotate_left 2; (focus (simp only [List.getElem?_toArray, List.getElem?_cons_succ, List.getElem?_cons_zero]; rfl)); (focus (exact fun _ _ _ h => h)); first | (focus (refine Or.inl ⟨by rfl, ?_⟩; intro w hSw; (try dsimp only at hSw); (try dsimp only [Array.getD]); go_simp; (try with_reducible rfl))) | (focus (refine Or.inr ⟨by rfl, ?_⟩; rfl)) | fail "op 20"
      try simp only [Act.put, List.setIfInBounds_toArray, List.set_cons_zero, List.set_cons_succ]
      refine wpAnyH_take (i := 21) (oi := ?_) (v := ?_) ?_ (by kernel_rfl) (by kernel_rfl) (by kernel_rfl) ?_ ?_ (by assumption) ?_; rotate_left 2; (focus (simp only [List.getElem?_toArray, List.getElem?_cons_succ, List.getElem?_cons_zero]; rfl)); (focus (exact fun _ _ _ h => h)); first | (focus (refine Or.inl ⟨by rfl, ?_⟩; intro w hSw; (try dsimp only at hSw); (try dsimp only [Array.getD]); go_simp; (try with_reducible rfl))) | (focus (refine Or.inr ⟨by rfl, ?_⟩; rfl)) | fail "op 21"
      try simp only [Act.put, List.setIfInBounds_toArray, List.set_cons_zero, List.set_cons_succ]
      refine wpAnyH_take (i := 22) (oi := ?_) (v := ?_) ?_ (by kernel_rfl) (by kernel_rfl) (by kernel_rfl) ?_ ?_ (by assumption) ?_; rotate_left 2; (focus (simp only [List.getElem?_toArray, List.getElem?_cons_succ, List.getElem?_cons_zero]; rfl)); (focus (exact fun _ _ _ h => h)); first | (focus (refine Or.inl ⟨by rfl, ?_⟩; intro w hSw; (try dsimp only at hSw); (try dsimp only [Array.getD]); go_simp; (try with_reducible rfl))) | (focus (refine Or.inr ⟨by rfl, ?_⟩; rfl)) | fail "op 22"
      try simp only [Act.put, List.setIfInBounds_toArray, List.set_cons_zero, List.set_cons_succ]
      refine wpAnyH_take (i := 23) (oi := ?_) (v := ?_) ?_ (by kernel_rfl) (by kernel_rfl) (by kernel_rfl) ?_ ?_ (by assumption) ?_; rotate_left 2; (focus (simp only [List.getElem?_toArray, List.getElem?_cons_succ, List.getElem?_cons_zero]; rfl)); (focus (exact fun _ _ _ h => h)); first | (focus (refine Or.inl ⟨by rfl, ?_⟩; intro w hSw; (try dsimp only at hSw); have c0 := (HX.out.grow hSw).rq.c0; (try dsimp only [Array.getD]); go_simp; (try with_reducible rfl))) | (focus (refine Or.inr ⟨by rfl, ?_⟩; rfl)) | fail "op 23"
      try simp only [Act.put, List.setIfInBounds_toArray, List.set_cons_zero, List.set_cons_succ]
      refine wpAnyH_ready (rs := [16]) (by kernel_rfl) (by simp) ?_
      refine AllReadyH.cons (o := ?_) ?_ (fun K hK => ?_) AllReadyH.nil; rotate_left; (focus (simp only [List.getElem?_toArray, List.getElem?_cons_succ, List.getElem?_cons_zero]; rfl))
      rw [if_pos (by rfl)]
      go_simp
      go_at_call 16
      refine (rdone_calls _ p nd nv N (some b) J (HX.out.grow hHeld).rd.wr).mono ?_
      rintro e w6 ⟨rfl, hg6⟩
      rw [Ht2.out]
      refine hK.out _ _ (hHeld.tr hg6) (fun hHeld => ?_)
      clear hK K
      try simp only [Act.put, List.setIfInBounds_toArray, List.set_cons_zero, List.set_cons_succ]
      refine wpAnyH_ready (rs := [18]) (by kernel_rfl) (by simp) ?_
      refine AllReadyH.cons (o := ?_) ?_ (fun K hK => ?_) AllReadyH.nil; rotate_left; (focus (simp only [List.getElem?_toArray, List.getElem?_cons_succ, List.getElem?_cons_zero]; rfl))
      rw [if_pos (by rfl)]
      go_simp
      go_at_call 28
      refine (rqhave_calls _ r nd nv2 N J rv' _ (HX.out.grow hHeld).rq (by omega) true).mono ?_
      rintro e w7 ⟨v7, rfl, ho7, hg7⟩
      obtain ⟨va, vc, rfl⟩ := own_slice ho7
      rw [HTl.out]
      clear ho7
      refine hK.out _ _ (hHeld.tr hg7) (fun hHeld => ?_)
      clear hK K
      try simp only [Act.put, List.setIfInBounds_toArray, List.set_cons_zero, List.set_cons_succ]
      refine wpAnyH_take (i := 19) (oi := ?_) (v := ?_) ?_ (by kernel_rfl) (by kernel_rfl) (by kernel_rfl) ?_ ?_ (by assumption) ?_; rotate_left 2; (focus (simp only [List.getElem?_toArray, List.getElem?_cons_succ, List.getElem?_cons_zero]; rfl)); (focus (exact fun _ _ _ h => h)); first | (focus (refine Or.inl ⟨by rfl, ?_⟩; intro w hSw; (try dsimp only at hSw); skip; (try dsimp only [Array.getD]); go_simp; (try with_reducible rfl))) | (focus (refine Or.inr ⟨by rfl, ?_⟩; rfl)) | fail "op 19"
      try simp only [Act.put, List.setIfInBounds_toArray, List.set_cons_zero, List.set_cons_succ]
      refine wpAnyH_take (i := 24) (oi := ?_) (v := ?_) ?_ (by kernel_rfl) (by kernel_rfl) (by kernel_rfl) ?_ ?_ (by assumption) ?_; rotate_left 2; (focus (simp only [List.getElem?_toArray, List.getElem?_cons_succ, List.getElem?_cons_zero]; rfl)); (focus (exact fun _ _ _ h => h)); first | (focus (refine Or.inl ⟨by rfl, ?_⟩; intro w hSw; (try dsimp only at hSw); have ht := Ht.out; (try dsimp only [Array.getD]); go_simp; (try with_reducible rfl))) | (focus (refine Or.inr ⟨by rfl, ?_⟩; rfl)) | fail "op 24"
      try simp only [Act.put, List.setIfInBounds_toArray, List.set_cons_zero, List.set_cons_succ]
      refine wpAnyH_take (i := 25) (oi := ?_) (v := ?_) ?_ (by kernel_rfl) (by kernel_rfl) (by kernel_rfl) ?_ ?_ (by assumption) ?_; rotate_left 2; (focus (simp only [List.getElem?_toArray, List.getElem?_cons_succ, List.getElem?_cons_zero]; rfl)); (focus (exact fun _ _ _ h => h)); first | (focus (refine Or.inl ⟨by rfl, ?_⟩; intro w hSw; (try dsimp only at hSw); have hbt := Hbt.out; (try dsimp only [Array.getD]); go_simp; (try with_reducible rfl))) | (focus (refine Or.inr ⟨by rfl, ?_⟩; rfl)) | fail "op 25"
      try simp only [Act.put, List.setIfInBounds_toArray, List.set_cons_zero, List.set_cons_succ]
      refine wpAnyH_take (i := 26) (oi := ?_) (v := ?_) ?_ (by kernel_rfl) (by kernel_rfl) (by kernel_rfl) ?_ ?_ (by assumption) ?_; rotate_left 2; (focus (simp only [List.getElem?_toArray, List.getElem?_cons_succ, List.getElem?_cons_zero]; rfl)); (focus (exact fun _ _ _ h => h)); first | (focus (refine Or.inl ⟨by rfl, ?_⟩; intro w hSw; (try dsimp only at hSw); (try dsimp only [Array.getD]); go_simp; (try with_reducible rfl))) | (focus (refine Or.inr ⟨by rfl, ?_⟩; rfl)) | fail "op 26"
      try simp only [Act.put, List.setIfInBounds_toArray, List.set_cons_zero, List.set_cons_succ]
      refine wpAnyH_done (by kernel_rfl) ?_ _
      have HX2 := Lib.hid (HX.out.grow hHeld)
      clear hHeld hz0 HX
      (try rw [Hbt.out])
      go_wp2_with fail
      go_roundw
      case rel => exact ⟨i + 1, J, gv', rv', ml, by omega, by omega, by omega, by go_num, HL2, HG2, HX2⟩
      case measure => simp [intOf]; omega
    · have hex : i = ops.length ∨ (i < ops.length ∧ i = 8) := by omega
      clear hlt
      have hal := allR_le gl 10 HG.out 16
      have HFl := Lib.hid (HQ.out.flat EN.out)
      have hsum : sumG N gl ≤ 100000 := by unfold sumG; rw [HFl.out]; omega
      have hso := sortP_len (allR gl 16)
      have HGm := Lib.hid (fun k => Nat.le_trans (HG.out k) (by decide : 10 ≤ 1000))
      have HGn := Lib.hid (fun k => Nat.le_trans (HG.out k) (by decide : 10 ≤ 100000))
      have HRep := Lib.hid (show ∀ n, repL N gl n = rrepL N gl n by intro n; unfold repL rrepL; rw [HFl.out])
      have Hrl := Lib.hid (show ∀ n, (rrepL N gl n).length ≤ 1000000 by
        intro n
        unfold rrepL
        split
        · exact Nat.le_trans (List.length_filter_le _ _) (by omega)
        · exact Nat.zero_le _)
      have hx2 : i = ops.length ∨ ((i : Int) < ops.length ∧ ¬ (i : Int) < 8) := by omega
      clear hex
      rcases hx2 with rfl | ⟨hl', hge⟩
      all_goals
        go_wp2_with fail
        go_loopw [18, 19] (fun fv jv wr => ∃ n : Int, -1 ≤ n ∧ n ≤ 17 ∧ jv = .int .i64 n ∧ fv = .bool true ∧ Hid (RQ w wr p b g r nd nv nv2 N H H gv rv gl gl)) (fun _ jv _ => (17 - intOf jv).toNat)
        case atStart => exact ⟨-1, by omega, by omega, rfl, rfl, HQ⟩
        case round =>
          obtain ⟨n, hn1, hn2, rfl, rfl, HX⟩ := hrel
          clear HQ
          have HI := Lib.hid (show I64 n by unfold I64; omega)
          have hrl := Hrl.out n
          by_cases hj1 : n < 17
          · skip
            go_wp2_with fail
            refine (repair_calls _ p nd nv N (some b) (some g) H gv gl HX.out.rd (by omega) hsum HGn.out n HI.out).mono ?_
            rintro e wa ⟨va, rfl, hoa, hga⟩
            rw [HRep.out n] at hoa
            have RA := Lib.hid (rdRow_of_own hoa)
            replace HX := Lib.hid (HX.out.grow hga)
            clear hoa hga
            go_wp2_with fail
            refine (rqrepair_calls _ r nd nv2 N H rv gl HX.out.rq (by omega) HGm.out n).mono ?_
            rintro e wb ⟨vb, rfl, hob, hgb⟩
            replace RA := Lib.hid (RA.out.gr hgb)
            have RB := Lib.hid (rdRow_of_own hob)
            replace HX := Lib.hid (HX.out.grow hgb)
            clear hob hgb
            go_wp2_with fail
            refine (samep_calls va vb (rrepL N gl n) (rrepL N gl n) _ RA.out RB.out (by omega)).mono ?_
            rintro e wc ⟨rfl, hgc⟩
            replace HX := Lib.hid (HX.out.grow hgc)
            rw [decide_eq_true (rfl : (rrepL N gl n) = (rrepL N gl n))]
            clear hgc RA RB
            go_wp2_with fail
            go_roundw
            case rel => exact ⟨n + 1, by omega, by omega, by go_num, rfl, HX⟩
            case measure => simp [intOf]; omega
          · obtain rfl : n = 17 := by omega
            clear hj1
            go_wp2_with fail
            go_ret
            exact ⟨rfl, HX.out.gr⟩
end Go.Proofs.Ytpnpnjfflblkpaa
