/- Hints: nodes, Owed, Nodes. -/
import Derived.Test.YtijgbfhjimlklaaHnH
namespace Go.Proofs.Ytijgbfhjimlklaa
open Go.RowKit Go.Maps

def nodesP (L : List Hk) (P : Pt → Bool) : List Int := (L.filter fun x => P x.1).map (·.2)
theorem nodesP_perm {L L' : List Hk} (h : L.Perm L') (P : Pt → Bool) : srt (nodesP L P) = srt (nodesP L' P) :=
  srt_eq (srt_lt _) (fun x => by rw [srt_mem]; exact ((h.filter _).map _).mem_iff)
theorem nodesP_len (L : List Hk) (P : Pt → Bool) : (nodesP L P).length ≤ L.length := by unfold nodesP; rw [List.length_map]; exact List.length_filter_le _ _
theorem nodesP_yes {d : List Hk} {x : Hk} {P : Pt → Bool} (h : P x.1 = true) : nodesP (d ++ [x]) P = nodesP d P ++ [x.2] := by unfold nodesP; rw [List.filter_append, List.map_append]; simp [h]
theorem nodesP_no {d : List Hk} {x : Hk} {P : Pt → Bool} (h : P x.1 = false) : nodesP (d ++ [x]) P = nodesP d P := by unfold nodesP; rw [List.filter_append, List.map_append]; simp [h]
theorem intC_one (x : Int) : ∀ v ∈ [Value.int .i64 x], v.oneCell' = true := by intro v hv; simp only [List.mem_cons, List.not_mem_nil, or_false] at hv; subst hv; rfl
theorem encI_flat (l : List Int) : (l.flatMap fun x => [Value.int .i64 x]) = encI l := by
  induction l with
  | nil => rfl
  | cons x r ih => rw [List.flatMap_cons, ih]; rfl
set_option maxRecDepth 100000 in
set_option maxHeartbeats 4000000 in
theorem nodesA  (w : World) (p b : Nat) (m : Int) (L : List Hk) (h : HAt w p (some b) m L) (hL : L.length ≤ 600) (P : Pt → Bool) (hcl : ∀ (q : Pt) W, Gr w W → Calls Try.prog 38 #[ptV q] W fun e w' => e = .returned (.bool (P q)) ∧ Gr W w') :
    Calls Try.prog 37 #[.pointer (some ⟨p, 0, none⟩), .func (.func 38) #[] #[]] w fun e w' => ∃ v, e = .returned v ∧ rdRow w' 1 v (srt (nodesP L P)).length (encI (srt (nodesP L P))) ∧ Gr w w' := by
  obtain ⟨c0, c1⟩ := h.cells
  obtain ⟨hnd, hki, ⟨e, _⟩ | ⟨b', D, e, hown, hat⟩⟩ := id h.map
  · cases e
  cases e
  have Hnd := Lib.hid hnd; have Hki := Lib.hid hki; have Hown := Lib.hid hown; have Hat := Lib.hid hat; have Hcl := Lib.hid hcl
  have HT := Lib.hid (show ∀ d : List Hk, d.Perm L → srt (nodesP d P) = srt (nodesP L P) from fun d hd => nodesP_perm hd P)
  generalize srt (nodesP L P) = T at *
  clear h hnd hki hown hat c0 hcl
  go_enter Try.func37, Try.ntmps37
  go_wp2_with (first | (at_range; refine wpList_range_own _ rfl _ 60 rfl 66 4 lawK Try.underlying60 heldR b L.length D rfl Hown.out ?_; intro w1 hrg1 hg1 hs1))
  try go_frame
  have HG1 : Gr w w1 := ⟨hg1.os, hg1.tape, hg1.output, hg1.size, fun k hk => hg1.block k hk (by simp)⟩
  obtain ⟨R, eR⟩ : ∃ R, w.heap.size = R := ⟨_, rfl⟩
  have ER := Lib.hid eR
  rw [eR] at hrg1 hs1 ⊢
  go_loopw [5] (fun u wr => ∃ (d : List Hk) (left : Lit → Bool) (cnt : Nat), wr.ranges Try.prog 66 heldR b R L.length D left cnt ∧ (∀ kl, left kl = true → Maps.has D kl = true) ∧ Hid (MetH L left d) ∧ d.length + cnt ≤ L.length ∧ Hid (wr.ownsRow (R + 1) 3 1 u (nodesP d P).length (encI (nodesP d P))) ∧ Hid (Gr w wr) ∧ R + 1 ≤ wr.heap.size) (fun _ wr => wr.rangeLeft b R)
  case atStart => exact ⟨[], Maps.has D, Maps.size D, hrg1, fun _ h => h, Lib.hid (.start Hki.out Hat.out), by rw [Hat.out.size]; simp, Lib.hid (World.ownsRow_nil _ _ _ _), Lib.hid HG1, by omega⟩
  case round =>
    obtain ⟨d, left, cnt, hrg, hleft, HM, hld, Hrow, HG, hR⟩ := hrel
    obtain ⟨ua, uc, rfl⟩ := own_slice Hrow.out
    have Hleft := Lib.hid hleft; have Hrg := Lib.hid hrg
    have hpl := nodesP_len d P
    clear hleft HG1 hrg1 hg1 hs1
    go_wp2_with (at_next; refine wpList_next_ranges _ rfl _ rfl 66 lawK heldR (fun x : Hk => hkV x) (fun c : Value => c) (fun key kl hk => by obtain ⟨x, e, _⟩ := invH hk; exact ⟨x, e⟩) (fun v y _ => ⟨v, rfl⟩) b R L.length D left cnt rfl hrg ?_ ?_)
    · intro hc0 hl0
      have hp := HM.out.done Hnd.out hl0
      have HE := Lib.hid (HT.out d hp)
      clear hl0 hrg hp
      go_wp2_with fail
      refine (sort_own_calls _ (R + 1) _ (nodesP d P) Hrow.out (by omega)).mono ?_
      rintro e w3 ⟨rfl, ho3, hg3⟩
      have G3 := Lib.hid (gr_gb HG.out hg3 (fun j hj => by have := (Hrow.out.lt j hj).1; have := ER.out; omega))
      have Ho3 := Lib.hid (own_cast ho3 (srtd_len (nodesP d P)).symm rfl)
      clear ho3 hg3
      go_wp2_with fail
      have hx3 : Value.slice ua (nodesP d P).length uc = Value.slice ua (srtd (nodesP d P)).length uc := by rw [srtd_len]
      rw [hx3]
      have Ho3' := Ho3.out
      rw [hx3] at Ho3'
      refine (comp_own_calls _ (R + 1) _ (srtd (nodesP d P)) Ho3' (by rw [srtd_len]; omega) (srtd_le (nodesP d P))).mono ?_
      rintro e w4 ⟨v4, rfl, ho4, hg4⟩
      have G4 := Lib.hid (gr_gb G3.out hg4 (fun j hj => by have := (Ho3'.lt j hj).1; have := ER.out; omega))
      have Hr4 := Lib.hid (show rdRow w4 1 v4 T.length (encI T) by rw [← HE.out]; exact rdRow_of_own ho4)
      obtain ⟨a4, c4, rfl⟩ := own_slice ho4
      clear ho4 hg4 Ho3' hx3
      go_wp2_with fail
      go_ret
      exact ⟨_, rfl, Hr4.out, G4.out⟩
    · intro xp xn c kl y ps w2 cnt2 hkey hlx hy hat hrg2 hlt hg2 hs2 hen
      obtain ⟨x1, ex, hi, ekl⟩ := invH hkey
      obtain ⟨x, hx⟩ : ∃ x : Hk, x = (xp, xn) := ⟨_, rfl⟩
      obtain rfl : x = x1 := by rw [hx]; exact hkV_inj ex
      have e1 : xp = x.1 := by rw [hx]
      have e2 : xn = x.2 := by rw [hx]
      subst e1 e2
      clear hx
      subst ekl
      have hxL := mem_of_left Hat.out hi (Hleft.out _ hlx)
      have hstep := HM.out.step Hki.out hxL hlx
      have hleft2 : ∀ kl, (left kl && !kl.sameKey (keyH x)) = true → Maps.has D kl = true := fun kl hk => Hleft.out kl (by simp at hk; exact hk.1)
      have HG2 : Gr w w2 := gr_gb HG.out hg2 (fun j hj => by injection hj with hj; have := ER.out; omega)
      have ho2 := own_bt Hrow.out (Bt.row (X := fun k => k = R) hg2 rfl) (fun k e z => by have := (Hrow.out.lt k e).1; omega)
      have G2 := Lib.hid HG2; have O2 := Lib.hid ho2; have HR2 := Lib.hid hrg2; have HSt := Lib.hid hstep; have Hl2 := Lib.hid hleft2
      have HRR := Lib.hid (show R + 1 ≤ w2.heap.size by omega)
      clear HG2 ho2 hrg2 hstep hleft2 HM Hrow hxL hat hlx hkey hy Hleft hg2 ex hrg hi hs2
      go_wp2_with fail
      obtain ⟨w3, e3, hg3, b3, s3⟩ := al_out w2 (.cells #[.string x.1.s, .int .i64 x.1.t, .int .i64 x.1.v, .int .i64 x.1.c, .int .i64 x.1.st, .int .i64 x.1.q, .int .i64 x.2] 66)
      rw [e3]
      obtain ⟨A6, eA⟩ : ∃ A, w2.heap.size = A := ⟨_, rfl⟩
      rw [eA] at b3 ⊢
      refine (Hcl.out x.1 _ (G2.out.tr hg3)).mono ?_
      rintro e w4 ⟨rfl, hg4⟩
      have b4 := (cell_of_row w4 A6 6 _ _ _ (hg4.blk b3)).trans rfl
      have hgw := hg3.tr hg4
      have HGW := Lib.hid hgw
      clear e3 hg3 b3 s3 hg4 hgw eA
      by_cases hP : P x.1 = true
      · rw [hP]
        have HX := Lib.hid (show nodesP (d ++ [x]) P = nodesP d P ++ [x.2] from nodesP_yes hP)
        clear hP
        go_wp2_with (at_builtin; refine Hid.out ?_)
        apply Lib.hid
        have hgw := HGW.out.tr (Gr.al (Gr.rfl' (w := w4)) (.cells #[.int .i64 x.2] 3))
        have hro := own_gr O2.out hgw
        rw [← encI_flat] at hro
        refine wpList_snoc (fun y : Int => [.int .i64 y]) 1 8 (fun _ => rfl) (by decide) (by decide) intC_one rfl (.tmp 22) (.tmp 25) 23 rfl (R + 1) 3 _ Try.underlying23 infoInt rfl (.slice ua (nodesP d P).length uc) (nodesP d P) rfl hro x.2 w4.heap.size rfl (heap_alloc_new w4 _) (by omega) (Nat.le_trans HRR.out hgw.size) (fun a6 c6 w6 ho6 hg6 hat6 => ?_)
        rw [encI_flat, ← HX.out] at ho6
        have hown := fun j hj => (O2.out.lt j hj).1
        have G6 := Lib.hid (gr_gb (G2.out.tr hgw) hg6 (fun j hj => by have := hown j hj; have := ER.out; omega))
        have hrg7 := Lib.hid ((ranges_gr HR2.out hgw).kept hg6 (fun e => by have := hown b e.symm; have := Hown.out.lt; have := ER.out; omega) (fun e => by have := hown R e.symm; omega))
        have Ho6 := Lib.hid ho6
        have hsz6 : R + 1 ≤ w6.heap.size := Nat.le_trans (Nat.le_trans HRR.out hgw.size) hg6.size
        clear ho6 hg6 hat6 hown hgw hro
        go_wp2_with fail
        go_roundw
        case rel => exact ⟨d ++ [x], _, cnt2, hrg7.out, Hl2.out, HSt, by simp; omega, Ho6, G6, hsz6⟩
        case measure => rw [hrg7.out.left_eq, Hrg.out.left_eq]; exact hlt
      · have hP' : P x.1 = false := by simpa using hP
        rw [hP']
        have HX := Lib.hid (show nodesP (d ++ [x]) P = nodesP d P from nodesP_no hP')
        clear hP hP'
        have hrg7 := Lib.hid (ranges_gr HR2.out HGW.out)
        go_wp2_with fail
        go_roundw
        case rel => exact ⟨d ++ [x], _, cnt2, hrg7.out, Hl2.out, HSt, by simp; omega, Lib.hid (by rw [HX.out]; exact own_gr O2.out HGW.out), Lib.hid (G2.out.tr HGW.out), Nat.le_trans HRR.out HGW.out.size⟩
        case measure => rw [hrg7.out.left_eq, Hrg.out.left_eq]; exact hlt
set_option maxRecDepth 100000 in
set_option maxHeartbeats 4000000 in
theorem nodesB (bk : Nat) (w : World) (p b : Nat) (m : Int) (L : List Hk) (h : HAt w p (some b) m L) (hL : L.length ≤ 600) (P : Pt → Bool) (hcl : ∀ (q : Pt) W, Gr w W → Calls Try.prog 39 #[ptV q, .pointer (some ⟨bk, 0, none⟩)] W fun e w' => e = .returned (.bool (P q)) ∧ Gr W w') :
    Calls Try.prog 37 #[.pointer (some ⟨p, 0, none⟩), .func (.func 39) #[] #[.pointer (some ⟨bk, 0, none⟩)]] w fun e w' => ∃ v, e = .returned v ∧ rdRow w' 1 v (srt (nodesP L P)).length (encI (srt (nodesP L P))) ∧ Gr w w' := by
  obtain ⟨c0, c1⟩ := h.cells
  obtain ⟨hnd, hki, ⟨e, _⟩ | ⟨b', D, e, hown, hat⟩⟩ := id h.map
  · cases e
  cases e
  have Hnd := Lib.hid hnd; have Hki := Lib.hid hki; have Hown := Lib.hid hown; have Hat := Lib.hid hat; have Hcl := Lib.hid hcl
  have HT := Lib.hid (show ∀ d : List Hk, d.Perm L → srt (nodesP d P) = srt (nodesP L P) from fun d hd => nodesP_perm hd P)
  generalize srt (nodesP L P) = T at *
  clear h hnd hki hown hat c0 hcl
  go_enter Try.func37, Try.ntmps37
  go_wp2_with (first | (at_range; refine wpList_range_own _ rfl _ 60 rfl 66 4 lawK Try.underlying60 heldR b L.length D rfl Hown.out ?_; intro w1 hrg1 hg1 hs1))
  try go_frame
  have HG1 : Gr w w1 := ⟨hg1.os, hg1.tape, hg1.output, hg1.size, fun k hk => hg1.block k hk (by simp)⟩
  obtain ⟨R, eR⟩ : ∃ R, w.heap.size = R := ⟨_, rfl⟩
  have ER := Lib.hid eR
  rw [eR] at hrg1 hs1 ⊢
  go_loopw [5] (fun u wr => ∃ (d : List Hk) (left : Lit → Bool) (cnt : Nat), wr.ranges Try.prog 66 heldR b R L.length D left cnt ∧ (∀ kl, left kl = true → Maps.has D kl = true) ∧ Hid (MetH L left d) ∧ d.length + cnt ≤ L.length ∧ Hid (wr.ownsRow (R + 1) 3 1 u (nodesP d P).length (encI (nodesP d P))) ∧ Hid (Gr w wr) ∧ R + 1 ≤ wr.heap.size) (fun _ wr => wr.rangeLeft b R)
  case atStart => exact ⟨[], Maps.has D, Maps.size D, hrg1, fun _ h => h, Lib.hid (.start Hki.out Hat.out), by rw [Hat.out.size]; simp, Lib.hid (World.ownsRow_nil _ _ _ _), Lib.hid HG1, by omega⟩
  case round =>
    obtain ⟨d, left, cnt, hrg, hleft, HM, hld, Hrow, HG, hR⟩ := hrel
    obtain ⟨ua, uc, rfl⟩ := own_slice Hrow.out
    have Hleft := Lib.hid hleft; have Hrg := Lib.hid hrg
    have hpl := nodesP_len d P
    clear hleft HG1 hrg1 hg1 hs1
    go_wp2_with (at_next; refine wpList_next_ranges _ rfl _ rfl 66 lawK heldR (fun x : Hk => hkV x) (fun c : Value => c) (fun key kl hk => by obtain ⟨x, e, _⟩ := invH hk; exact ⟨x, e⟩) (fun v y _ => ⟨v, rfl⟩) b R L.length D left cnt rfl hrg ?_ ?_)
    · intro hc0 hl0
      have hp := HM.out.done Hnd.out hl0
      have HE := Lib.hid (HT.out d hp)
      clear hl0 hrg hp
      go_wp2_with fail
      refine (sort_own_calls _ (R + 1) _ (nodesP d P) Hrow.out (by omega)).mono ?_
      rintro e w3 ⟨rfl, ho3, hg3⟩
      have G3 := Lib.hid (gr_gb HG.out hg3 (fun j hj => by have := (Hrow.out.lt j hj).1; have := ER.out; omega))
      have Ho3 := Lib.hid (own_cast ho3 (srtd_len (nodesP d P)).symm rfl)
      clear ho3 hg3
      go_wp2_with fail
      have hx3 : Value.slice ua (nodesP d P).length uc = Value.slice ua (srtd (nodesP d P)).length uc := by rw [srtd_len]
      rw [hx3]
      have Ho3' := Ho3.out
      rw [hx3] at Ho3'
      refine (comp_own_calls _ (R + 1) _ (srtd (nodesP d P)) Ho3' (by rw [srtd_len]; omega) (srtd_le (nodesP d P))).mono ?_
      rintro e w4 ⟨v4, rfl, ho4, hg4⟩
      have G4 := Lib.hid (gr_gb G3.out hg4 (fun j hj => by have := (Ho3'.lt j hj).1; have := ER.out; omega))
      have Hr4 := Lib.hid (show rdRow w4 1 v4 T.length (encI T) by rw [← HE.out]; exact rdRow_of_own ho4)
      obtain ⟨a4, c4, rfl⟩ := own_slice ho4
      clear ho4 hg4 Ho3' hx3
      go_wp2_with fail
      go_ret
      exact ⟨_, rfl, Hr4.out, G4.out⟩
    · intro xp xn c kl y ps w2 cnt2 hkey hlx hy hat hrg2 hlt hg2 hs2 hen
      obtain ⟨x1, ex, hi, ekl⟩ := invH hkey
      obtain ⟨x, hx⟩ : ∃ x : Hk, x = (xp, xn) := ⟨_, rfl⟩
      obtain rfl : x = x1 := by rw [hx]; exact hkV_inj ex
      have e1 : xp = x.1 := by rw [hx]
      have e2 : xn = x.2 := by rw [hx]
      subst e1 e2
      clear hx
      subst ekl
      have hxL := mem_of_left Hat.out hi (Hleft.out _ hlx)
      have hstep := HM.out.step Hki.out hxL hlx
      have hleft2 : ∀ kl, (left kl && !kl.sameKey (keyH x)) = true → Maps.has D kl = true := fun kl hk => Hleft.out kl (by simp at hk; exact hk.1)
      have HG2 : Gr w w2 := gr_gb HG.out hg2 (fun j hj => by injection hj with hj; have := ER.out; omega)
      have ho2 := own_bt Hrow.out (Bt.row (X := fun k => k = R) hg2 rfl) (fun k e z => by have := (Hrow.out.lt k e).1; omega)
      have G2 := Lib.hid HG2; have O2 := Lib.hid ho2; have HR2 := Lib.hid hrg2; have HSt := Lib.hid hstep; have Hl2 := Lib.hid hleft2
      have HRR := Lib.hid (show R + 1 ≤ w2.heap.size by omega)
      clear HG2 ho2 hrg2 hstep hleft2 HM Hrow hxL hat hlx hkey hy Hleft hg2 ex hrg hi hs2
      go_wp2_with fail
      obtain ⟨w3, e3, hg3, b3, s3⟩ := al_out w2 (.cells #[.string x.1.s, .int .i64 x.1.t, .int .i64 x.1.v, .int .i64 x.1.c, .int .i64 x.1.st, .int .i64 x.1.q, .int .i64 x.2] 66)
      rw [e3]
      obtain ⟨A6, eA⟩ : ∃ A, w2.heap.size = A := ⟨_, rfl⟩
      rw [eA] at b3 ⊢
      refine (Hcl.out x.1 _ (G2.out.tr hg3)).mono ?_
      rintro e w4 ⟨rfl, hg4⟩
      have b4 := (cell_of_row w4 A6 6 _ _ _ (hg4.blk b3)).trans rfl
      have hgw := hg3.tr hg4
      have HGW := Lib.hid hgw
      clear e3 hg3 b3 s3 hg4 hgw eA
      by_cases hP : P x.1 = true
      · rw [hP]
        have HX := Lib.hid (show nodesP (d ++ [x]) P = nodesP d P ++ [x.2] from nodesP_yes hP)
        clear hP
        go_wp2_with (at_builtin; refine Hid.out ?_)
        apply Lib.hid
        have hgw := HGW.out.tr (Gr.al (Gr.rfl' (w := w4)) (.cells #[.int .i64 x.2] 3))
        have hro := own_gr O2.out hgw
        rw [← encI_flat] at hro
        refine wpList_snoc (fun y : Int => [.int .i64 y]) 1 8 (fun _ => rfl) (by decide) (by decide) intC_one rfl (.tmp 22) (.tmp 25) 23 rfl (R + 1) 3 _ Try.underlying23 infoInt rfl (.slice ua (nodesP d P).length uc) (nodesP d P) rfl hro x.2 w4.heap.size rfl (heap_alloc_new w4 _) (by omega) (Nat.le_trans HRR.out hgw.size) (fun a6 c6 w6 ho6 hg6 hat6 => ?_)
        rw [encI_flat, ← HX.out] at ho6
        have hown := fun j hj => (O2.out.lt j hj).1
        have G6 := Lib.hid (gr_gb (G2.out.tr hgw) hg6 (fun j hj => by have := hown j hj; have := ER.out; omega))
        have hrg7 := Lib.hid ((ranges_gr HR2.out hgw).kept hg6 (fun e => by have := hown b e.symm; have := Hown.out.lt; have := ER.out; omega) (fun e => by have := hown R e.symm; omega))
        have Ho6 := Lib.hid ho6
        have hsz6 : R + 1 ≤ w6.heap.size := Nat.le_trans (Nat.le_trans HRR.out hgw.size) hg6.size
        clear ho6 hg6 hat6 hown hgw hro
        go_wp2_with fail
        go_roundw
        case rel => exact ⟨d ++ [x], _, cnt2, hrg7.out, Hl2.out, HSt, by simp; omega, Ho6, G6, hsz6⟩
        case measure => rw [hrg7.out.left_eq, Hrg.out.left_eq]; exact hlt
      · have hP' : P x.1 = false := by simpa using hP
        rw [hP']
        have HX := Lib.hid (show nodesP (d ++ [x]) P = nodesP d P from nodesP_no hP')
        clear hP hP'
        have hrg7 := Lib.hid (ranges_gr HR2.out HGW.out)
        go_wp2_with fail
        go_roundw
        case rel => exact ⟨d ++ [x], _, cnt2, hrg7.out, Hl2.out, HSt, by simp; omega, Lib.hid (by rw [HX.out]; exact own_gr O2.out HGW.out), Lib.hid (G2.out.tr HGW.out), Nat.le_trans HRR.out HGW.out.size⟩
        case measure => rw [hrg7.out.left_eq, Hrg.out.left_eq]; exact hlt
theorem any_calls (q : Pt) (W : World) : Calls Try.prog 38 #[ptV q] W fun e w' => e = .returned (.bool true) ∧ Gr W w' := by
  go_enter Try.func38, Try.ntmps38
  go_wp2_with fail
  go_ret
  exact ⟨rfl, by (repeat (first | exact Gr.rfl' | refine Gr.al ?_ _ | refine Gr.dr ?_ | refine Gr.drN ?_ | refine Gr.sc ?_ (by simp <;> omega) _ | refine Gr.tr ?_ (by assumption)))⟩
theorem is_calls (q x : Pt) (bk : Nat) (W : World) (hb : W.heap[bk]? = some (.cells (ptC x).toArray 31 (0, 0))) : Calls Try.prog 39 #[ptV q, .pointer (some ⟨bk, 0, none⟩)] W fun e w' => e = .returned (.bool (decide (q = x))) ∧ Gr W w' := by
  have Hb := Lib.hid ((Gr.al Gr.rfl' (.cells (ptC q).toArray 31)).blk hb)
  have hd : decide (q = x) = decide (q.s.toList = x.s.toList ∧ q.t = x.t ∧ q.v = x.v ∧ q.c = x.c ∧ q.st = x.st ∧ q.q = x.q) := by
    refine decide_eq_decide.2 ?_
    have hs : q.s.toList = x.s.toList ↔ q.s = x.s := by rw [Lib.toList_data, Lib.toList_data]; exact ⟨fun h => sb_inj h, fun h => by rw [h]⟩
    rw [hs]
    cases q; cases x; simp
  have Hd := Lib.hid hd
  clear hb hd
  go_enter Try.func39, Try.ntmps39
  go_wp2_with (first | (refine wpList_load_rowg (by rfl) 31 (.tmp 1) rfl bk rfl _ (ptC x).toArray (0, 0) _ Hb.out Try.underlying31 rfl info_pt ?_))
  all_goals
    go_ret
    refine ⟨ret_b rfl ?_, Gr.al Gr.rfl' _⟩
    rw [Hd.out]
    simp [*]
theorem hnodes_calls (w : World) (p b : Nat) (m : Int) (L : List Hk) (h : HAt w p (some b) m L) (hL : L.length ≤ 600) :
    Calls Try.prog 17 #[.pointer (some ⟨p, 0, none⟩)] w fun e w' => ∃ v, e = .returned v ∧ rdRow w' 1 v (srt (L.map (·.2))).length (encI (srt (L.map (·.2)))) ∧ Gr w w' := by
  have hc := nodesA w p b m L h hL (fun _ => true) (fun q W _ => any_calls q W)
  have e : nodesP L (fun _ => true) = L.map (·.2) := by unfold nodesP; rw [List.filter_eq_self.2 (fun _ _ => rfl)]
  rw [e] at hc
  have Hc := Lib.hid hc
  clear hc h e
  go_enter Try.func17, Try.ntmps17
  go_wp2_with fail
  refine Hc.out.mono ?_
  rintro e w1 ⟨v, rfl, h1, h2⟩
  have H1 := Lib.hid h1
  clear h1
  go_wp2_with fail
  go_ret
  exact ⟨_, rfl, H1.out, h2⟩
theorem howed_calls (w : World) (p b : Nat) (m : Int) (L : List Hk) (h : HAt w p (some b) m L) (hL : L.length ≤ 600) (x : Pt) :
    Calls Try.prog 20 #[.pointer (some ⟨p, 0, none⟩), ptV x] w fun e w' => ∃ v, e = .returned v ∧ rdRow w' 1 v (srt (nodesP L fun q => decide (q = x))).length (encI (srt (nodesP L fun q => decide (q = x)))) ∧ Gr w w' := by
  have hg0 : Gr w (w.alloc (.cells (ptC x).toArray 31)) := Gr.al Gr.rfl' _
  have Hc := Lib.hid (nodesB w.heap.size (w.alloc (.cells (ptC x).toArray 31)) p b m L (h.gr hg0) hL (fun q => decide (q = x)) (fun q W hg => is_calls q x w.heap.size W (hg.blk (heap_alloc_new w _))))
  have HG := Lib.hid hg0
  clear h hg0
  go_enter Try.func20, Try.ntmps20
  go_wp2_with fail
  refine Hc.out.mono ?_
  rintro e w1 ⟨v, rfl, h1, h2⟩
  have H1 := Lib.hid h1
  clear h1
  go_wp2_with fail
  go_ret
  exact ⟨_, rfl, H1.out, HG.out.tr h2⟩
end Go.Proofs.Ytijgbfhjimlklaa
