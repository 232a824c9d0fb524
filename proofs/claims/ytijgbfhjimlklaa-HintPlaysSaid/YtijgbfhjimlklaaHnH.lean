/- Hints: For. -/
import Derived.Test.YtijgbfhjimlklaaHnG
import Derived.Test.YtijgbfhjimlklaaSm
namespace Go.Proofs.Ytijgbfhjimlklaa
open Go.RowKit Go.Maps
attribute [local go_sem] max2_mx min2_mn max_two' min_two'

def pointsOf (L : List Hk) (node : Int) : List Pt := (L.filter fun x => decide (x.2 = node)).map (·.1)
theorem pointsOf_perm {L L' : List Hk} (h : L.Perm L') (node : Int) : (pointsOf L node).Perm (pointsOf L' node) := (h.filter _).map _
theorem pointsOf_len (L : List Hk) (node : Int) : (pointsOf L node).length ≤ L.length := by unfold pointsOf; rw [List.length_map]; exact List.length_filter_le _ _
theorem pointsOf_yes {d : List Hk} {x : Hk} {node : Int} (h : x.2 = node) : pointsOf (d ++ [x]) node = pointsOf d node ++ [x.1] := by unfold pointsOf; rw [List.filter_append, List.map_append]; simp [h]
theorem pointsOf_no {d : List Hk} {x : Hk} {node : Int} (h : x.2 ≠ node) : pointsOf (d ++ [x]) node = pointsOf d node := by unfold pointsOf; rw [List.filter_append, List.map_append]; simp [h]
def forL (L : List Hk) (node most : Int) : List Pt := (srtH (pointsOf L node)).take most.toNat
theorem mem_of_left {D : DataW Value} {L : List Hk} (h : SetD D L) {x : Hk} (hx : HkI x) (hl : Maps.has D (keyH x) = true) : x ∈ L := by
  have := (h.at_ x hx).1
  rw [hl] at this
  exact of_decide_eq_true this.symm
theorem rdP_take {w : World} {a : Option Addr} {n cap m : Nat} {l : List Pt} (h : rdRow w 6 (.slice a n cap) l.length (encP l)) (hm : m ≤ l.length) : rdRow w 6 (.slice a m cap) (l.take m).length (encP (l.take m)) := by
  obtain ⟨h1, a', c', e, hc, h2⟩ := h
  injection e with e1 e2 e3
  subst e1 e2 e3
  have hl : (l.take m).length = m := by rw [List.length_take]; omega
  refine ⟨encP_len _, a, cap, by rw [hl], by omega, fun h0 => ?_⟩
  obtain ⟨b, o, rfl, h3⟩ := h2 (by omega)
  refine ⟨b, o, rfl, fun j u hu => h3 j u ?_⟩
  have : encP l = encP (l.take m) ++ encP (l.drop m) := by rw [← List.flatMap_append, List.take_append_drop]
  rw [this, List.getElem?_append_left (by have := (List.getElem?_eq_some_iff.1 hu).1; exact this)]
  exact hu
set_option maxRecDepth 100000 in
set_option maxHeartbeats 4000000 in
theorem for_calls (w : World) (p b : Nat) (m : Int) (L : List Hk) (h : HAt w p (some b) m L) (hL : L.length ≤ 600) (node most : Int) :
    Calls Try.prog 15 #[.pointer (some ⟨p, 0, none⟩), .int .i64 node, .int .i64 most] w fun e w' => ∃ v, e = .returned v ∧ rdRow w' 6 v (forL L node most).length (encP (forL L node most)) ∧ (∀ a n c, v = .slice (some a) n c → w.heap.size ≤ a.block) ∧ Gr w w' := by
  obtain ⟨c0, c1⟩ := h.cells
  obtain ⟨hnd, hki, ⟨e, _⟩ | ⟨b', D, e, hown, hat⟩⟩ := id h.map
  · cases e
  cases e
  have Hnd := Lib.hid hnd; have Hki := Lib.hid hki; have Hown := Lib.hid hown; have Hat := Lib.hid hat
  have HT := Lib.hid (show ∀ d : List Hk, d.Perm L → srtH (pointsOf d node) = srtH (pointsOf L node) from fun d hd => srtH_congr (pointsOf_perm hd node))
  have HF := Lib.hid (show (srtH (pointsOf L node)).take most.toNat = forL L node most from rfl)
  have HTl := Lib.hid (show (srtH (pointsOf L node)).length ≤ 600 by rw [srtH_len]; have := pointsOf_len L node; omega)
  generalize forL L node most = r at *
  generalize srtH (pointsOf L node) = T at *
  clear h hnd hki hown hat c0
  go_enter Try.func15, Try.ntmps15
  go_wp2_with fail
  go_step3
  go_wp2_with fail
  go_step3
  go_wp2_with (first | (at_range; refine wpList_range_own _ rfl _ 60 rfl 66 4 lawK Try.underlying60 heldR b L.length D rfl Hown.out ?_; intro w1 hrg1 hg1 hs1))
  try go_frame
  have HG1 : Gr w w1 := ⟨hg1.os, hg1.tape, hg1.output, hg1.size, fun k hk => hg1.block k hk (by simp)⟩
  obtain ⟨R, eR⟩ : ∃ R, w.heap.size = R := ⟨_, rfl⟩
  have ER := Lib.hid eR
  rw [eR] at hrg1 hs1 ⊢
  go_loopw [7] (fun u wr => ∃ (d : List Hk) (left : Lit → Bool) (cnt : Nat), wr.ranges Try.prog 66 heldR b R L.length D left cnt ∧ (∀ kl, left kl = true → Maps.has D kl = true) ∧ Hid (MetH L left d) ∧ d.length + cnt ≤ L.length ∧ Hid (wr.ownsRow (R + 1) 31 6 u (pointsOf d node).length (encP (pointsOf d node))) ∧ Hid (Gr w wr) ∧ R + 1 ≤ wr.heap.size) (fun _ wr => wr.rangeLeft b R)
  case atStart => exact ⟨[], Maps.has D, Maps.size D, hrg1, fun _ h => h, Lib.hid (.start Hki.out Hat.out), by rw [Hat.out.size]; simp, Lib.hid (World.ownsRow_nil _ _ _ _), Lib.hid HG1, by omega⟩
  case round =>
    obtain ⟨d, left, cnt, hrg, hleft, HM, hld, Hrow, HG, hR⟩ := hrel
    obtain ⟨ua, uc, rfl⟩ := own_slice Hrow.out
    have Hleft := Lib.hid hleft; have Hrg := Lib.hid hrg
    have hpl := pointsOf_len d node
    clear hleft HG1 hrg1 hg1 hs1
    go_wp2_with (at_next; refine wpList_next_ranges _ rfl _ rfl 66 lawK heldR (fun x : Hk => hkV x) (fun c : Value => c) (fun key kl hk => by obtain ⟨x, e, _⟩ := invH hk; exact ⟨x, e⟩) (fun v y _ => ⟨v, rfl⟩) b R L.length D left cnt rfl hrg ?_ ?_)
    · intro hc0 hl0
      have hp := HM.out.done Hnd.out hl0
      have HTd := Lib.hid (HT.out d hp)
      clear hl0 hrg hp
      go_wp2_with fail
      refine (sortp_calls (pointsOf d node) (by omega) _ (R + 1) _ Hrow.out).mono ?_
      rintro e w3 ⟨rfl, ho3, hg3⟩
      rw [HTd.out] at ho3
      have hTl : T.length = (pointsOf d node).length := by rw [← HTd.out, srtH_len]
      have G3 := Lib.hid (gr_gb HG.out hg3 (fun j hj => by have := (Hrow.out.lt j hj).1; have := ER.out; omega))
      have hrow3 := rdRow_of_own ho3
      rw [← hTl] at ho3 hrow3 ⊢
      have Hbig := Lib.hid (show ∀ a n c, Value.slice ua T.length uc = .slice (some a) n c → w.heap.size ≤ a.block from fun a n c e => by
        have e1 := (Value.slice.inj e).1
        subst e1
        rcases ho3.2 with ⟨h2, _⟩ | ⟨g, cap, cur, h2, hb, _⟩
        · cases h2
        · have := (Value.slice.inj h2).1
          injection this with this
          subst this
          have := ER.out
          show w.heap.size ≤ g
          omega)
      have hcap : T.length ≤ uc := by obtain ⟨_, _, _, e, hc, _⟩ := hrow3; rw [(Value.slice.inj e).2.2]; exact hc
      have hlen2 := HTl.out
      obtain ⟨k, hk, ek, Hkr⟩ : ∃ k : Nat, k ≤ T.length ∧ mn (T.length : Int) (mx most 0) = (k : Int) ∧ Hid (T.take k = r) := by
        refine ⟨min T.length most.toNat, by omega, ?_, Lib.hid ?_⟩
        · unfold mn mx; split <;> split <;> omega
        · rw [← HF.out, List.take_eq_take_iff]; omega
      have Hrow4 := Lib.hid (rdP_take hrow3 hk)
      clear ho3 hg3 hrow3 Hrow hpl hTl
      go_wp2_with fail
      rw [Exit.noGoto_ret]
      go_ret
      have e2 : (r.length : Int) = k := by have h1 := congrArg List.length Hkr.out; rw [List.length_take] at h1; omega
      refine ⟨_, rfl, ?_, fun a n c e => ?_, G3.out⟩
      · have h4 := Hrow4.out
        rw [Hkr.out] at h4
        exact h4
      · exact Hbig.out a _ _ (by have := (Value.slice.inj e).1; rw [this])
    · intro xp xn c kl y ps w2 cnt2 hkey hlx hy hat hrg2 hlt hg2 hs2 hen
      obtain ⟨x1, ex, hi, ekl⟩ := invH hkey
      obtain ⟨x, hx⟩ : ∃ x : Hk, x = (xp, xn) := ⟨_, rfl⟩
      obtain rfl : x = x1 := by rw [hx]; exact hkV_inj ex
      have e1 : xp = x.1 := by rw [hx]
      have e2 : xn = x.2 := by rw [hx]
      subst e1 e2
      clear hx
      subst ekl
      have hxL := mem_of_left Hat.out hi (Hleft.out _ hlx)
      have hstep := HM.out.step Hki.out hxL hlx
      have hleft2 : ∀ kl, (left kl && !kl.sameKey (keyH x)) = true → Maps.has D kl = true := fun kl hk => Hleft.out kl (by simp at hk; exact hk.1)
      have HG2 : Gr w w2 := gr_gb HG.out hg2 (fun j hj => by injection hj with hj; have := ER.out; omega)
      have ho2 := own_bt Hrow.out (Bt.row (X := fun k => k = R) hg2 rfl) (fun k e z => by have := (Hrow.out.lt k e).1; omega)
      have G2 := Lib.hid HG2; have O2 := Lib.hid ho2; have HR2 := Lib.hid hrg2; have HSt := Lib.hid hstep; have Hl2 := Lib.hid hleft2
      have hR2 : R + 1 ≤ w2.heap.size := by omega
      have HRR := Lib.hid hR2
      clear HG2 ho2 hrg2 hstep hleft2 HM Hrow hxL hat hlx hkey hy Hleft hg2 ex hrg hi hs2
      by_cases hxn : x.2 = node
      · have hxb : (x.2 == node) = true := by simp [hxn]
        have HX := Lib.hid (show pointsOf (d ++ [x]) node = pointsOf d node ++ [x.1] from pointsOf_yes hxn)
        clear hxn
        go_wp2_with (at_builtin; refine Hid.out ?_)
        apply Lib.hid
        have hA : ((w2.alloc (.cells (hkC x).toArray 66)).alloc (.cells (ptC x.1).toArray 31)).heap[w2.heap.size + 1]? = some (.cells (ptC x.1).toArray 31 (0, 0)) := by
          have := heap_alloc_new (w2.alloc (.cells (hkC x).toArray 66)) (.cells (ptC x.1).toArray 31)
          rwa [show (w2.alloc (.cells (hkC x).toArray 66)).heap.size = w2.heap.size + 1 by simp] at this
        have hgw : Gr w2 ((w2.alloc (.cells (hkC x).toArray 66)).alloc (.cells (ptC x.1).toArray 31)) := Gr.al (Gr.al Gr.rfl' _) _
        refine wpList_snoc ptC 6 56 (fun _ => rfl) (by decide) (by decide) ptC_one rfl (.tmp 24) (.tmp 27) 22 rfl (R + 1) 31 _ Try.underlying22 infoPt rfl (.slice ua (pointsOf d node).length uc) (pointsOf d node) rfl (own_gr O2.out hgw) x.1 (w2.heap.size + 1) rfl hA (by omega) (by simp; omega) (fun a6 c6 w6 ho6 hg6 hat6 => ?_)
        rw [← HX.out] at ho6
        have hown := fun j hj => (O2.out.lt j hj).1
        have G6 := Lib.hid (gr_gb (G2.out.tr hgw) hg6 (fun j hj => by have := hown j hj; have := ER.out; omega))
        have hrg7 := Lib.hid ((ranges_gr HR2.out hgw).kept hg6 (fun e => by have := hown b e.symm; have := Hown.out.lt; have := ER.out; omega) (fun e => by have := hown R e.symm; omega))
        have Ho6 := Lib.hid ho6
        have hsz6 : R + 1 ≤ w6.heap.size := Nat.le_trans (Nat.le_trans HRR.out hgw.size) hg6.size
        clear ho6 hg6 hat6 hown hA hgw
        go_wp2_with fail
        go_roundw
        case rel => exact ⟨d ++ [x], _, cnt2, hrg7.out, Hl2.out, HSt, by simp; omega, Ho6, G6, hsz6⟩
        case measure => rw [hrg7.out.left_eq, Hrg.out.left_eq]; exact hlt
      · have hxb : (x.2 == node) = false := by simp [hxn]
        have HX := Lib.hid (show pointsOf (d ++ [x]) node = pointsOf d node from pointsOf_no hxn)
        clear hxn
        go_wp2_with fail
        have hgw : Gr w2 (w2.alloc (.cells (hkC x).toArray 66)) := Gr.al Gr.rfl' _
        have hrg7 := Lib.hid (ranges_gr HR2.out hgw)
        go_roundw
        case rel => exact ⟨d ++ [x], _, cnt2, hrg7.out, Hl2.out, HSt, by simp; omega, Lib.hid (by rw [HX.out]; exact own_gr O2.out hgw), Lib.hid (G2.out.tr hgw), Nat.le_trans HRR.out hgw.size⟩
        case measure => rw [hrg7.out.left_eq, Hrg.out.left_eq]; exact hlt
end Go.Proofs.Ytijgbfhjimlklaa
