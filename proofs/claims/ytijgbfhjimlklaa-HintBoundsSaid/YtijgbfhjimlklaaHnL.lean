/- HintBounds: the law. -/
import Derived.Test.YtijgbfhjimlklaaHnK
namespace Go.Proofs.Ytijgbfhjimlklaa
open Go.RowKit Go.Maps

def upto (m : Nat) : List Int := (List.range m).map Int.ofNat
theorem upto_len (m : Nat) : (upto m).length = m := by simp [upto]
theorem upto_succ (m : Nat) : upto (m + 1) = upto m ++ [(m : Int)] := by simp [upto, List.range_succ]
theorem upto_nodesF : ∀ m : Fin 6, nodesOf (upto m) = upto m := by decide
theorem upto_nodes {m : Nat} (h : m ≤ 5) : nodesOf (upto m) = upto m := upto_nodesF ⟨m, by omega⟩
theorem upto_rise (m : Nat) : (upto m).Pairwise (· < ·) := by
  unfold upto
  rw [List.pairwise_map]
  exact List.pairwise_lt_range.imp (fun h => by show ((_ : Nat) : Int) < ((_ : Nat) : Int); omega)
structure Bd (i : Nat) (L : List Hk) : Prop where
  pts : ∀ x ∈ L, ∃ j : Nat, j < i ∧ x.1 = ptA j
theorem ptA_ok {i : Nat} (h : i ≤ 1000) : PtOk (ptA i) := ⟨(show SerOk ⟨#[97]⟩ by decide), ⟨by show (0 : Int) ≤ i; omega, by show (i : Int) ≤ topN; unfold topN; omega⟩, (show StampOk 1 0 1 by decide)⟩
theorem ptA_inj {a b : Int} (h : ptA a = ptA b) : a = b := by injection h
section
variable {i : Nat} {L : List Hk} {m : Nat}
theorem Bd.ne (h : Bd i L) : ∀ x ∈ L, x.1 ≠ ptA i := fun x hx e => by
  obtain ⟨j, hj, e2⟩ := h.pts x hx
  have := ptA_inj (e2.symm.trans e)
  omega
theorem Bd.more (h : Bd i L) (hm : m ≤ 5) : moreH L (ptA i) (upto m) = (upto m).map fun n => (ptA i, n) := by
  have e : moreH L (ptA i) (upto m) = ((nodesOf (upto m)).map fun k => (ptA i, k)).filter fun x => decide (x ∉ L) := rfl
  rw [e, upto_nodes hm]
  refine List.filter_eq_self.2 fun x hx => ?_
  obtain ⟨n, _, rfl⟩ := List.mem_map.1 hx
  simp only [decide_eq_true_eq]
  exact fun z => h.ne _ z rfl
theorem Bd.addOk (h : Bd i L) (hm : m ≤ 5) (hi : i ≤ 1000) (k : Int) : addOk k L (ptA i) (upto m) ↔ (L.length : Int) + m ≤ k := by
  unfold Go.Proofs.Ytijgbfhjimlklaa.addOk
  rw [h.more hm, List.length_map, upto_len]
  exact ⟨fun z => z.2, fun z => ⟨ptA_ok hi, z⟩⟩
theorem Bd.next (h : Bd i L) (hm : m ≤ 5) : Bd (i + 1) (L ++ moreH L (ptA i) (upto m)) := ⟨fun x hx => by
  rcases List.mem_append.1 hx with hx | hx
  · obtain ⟨j, hj, e⟩ := h.pts x hx
    exact ⟨j, by omega, e⟩
  · rw [h.more hm] at hx
    obtain ⟨n, _, rfl⟩ := List.mem_map.1 hx
    exact ⟨i, by omega, rfl⟩⟩
theorem Bd.stay (h : Bd i L) : Bd (i + 1) L := ⟨fun x hx => by obtain ⟨j, hj, e⟩ := h.pts x hx; exact ⟨j, by omega, e⟩⟩
theorem Bd.none (h : Bd i L) : nodesP L (fun q => decide (q = ptA i)) = [] := by
  unfold nodesP
  rw [List.filter_eq_nil_iff.2 (fun x hx => by simp; exact h.ne x hx)]; rfl
theorem Bd.owed (h : Bd i L) (hm : m ≤ 5) : (srt (nodesP (L ++ moreH L (ptA i) (upto m)) fun q => decide (q = ptA i))).length = m := by
  have e : nodesP (L ++ moreH L (ptA i) (upto m)) (fun q => decide (q = ptA i)) = upto m := by
    have h1 := h.none
    unfold nodesP at h1 ⊢
    rw [List.filter_append, List.map_append, h1, h.more hm, List.nil_append]
    rw [List.filter_eq_self.2 (fun x hx => by obtain ⟨n, _, rfl⟩ := List.mem_map.1 hx; simp)]
    rw [List.map_map]
    exact List.map_id _
  rw [e, srt_eq (upto_rise m) (fun x => Iff.rfl), upto_len]
theorem Bd.owed0 (h : Bd i L) : (srt (nodesP L fun q => decide (q = ptA i))).length = 0 := by
  rw [h.none, srt_eq (m := []) List.Pairwise.nil (fun x => Iff.rfl)]; rfl
end
set_option maxRecDepth 100000 in
set_option maxHeartbeats 8000000 in
theorem bounds_law (room many nodes : Int) (w : World) : Calls Try.prog 4 #[.int .i64 room, .int .i64 many, .int .i64 nodes] w fun e w' => e = .returned (.bool true) ∧ Gr w w' := by
  have hm1 : -30 ≤ room.tmod 31 ∧ room.tmod 31 ≤ 30 := by
    have h1 := Int.tmod_lt_of_pos room (b := 31) (by omega)
    have h2 := Int.lt_tmod_of_pos room (b := 31) (by omega)
    omega
  have hm2 : -20 ≤ many.tmod 21 ∧ many.tmod 21 ≤ 20 := by
    have h1 := Int.tmod_lt_of_pos many (b := 21) (by omega)
    have h2 := Int.lt_tmod_of_pos many (b := 21) (by omega)
    omega
  have hm3 : -5 ≤ nodes.tmod 6 ∧ nodes.tmod 6 ≤ 5 := by
    have h1 := Int.tmod_lt_of_pos nodes (b := 6) (by omega)
    have h2 := Int.lt_tmod_of_pos nodes (b := 6) (by omega)
    omega
  obtain ⟨q1, e1⟩ : ∃ q, room.tmod 31 = q := ⟨_, rfl⟩
  obtain ⟨q2, e2⟩ : ∃ q, many.tmod 21 = q := ⟨_, rfl⟩
  obtain ⟨q3, e3⟩ : ∃ q, nodes.tmod 6 = q := ⟨_, rfl⟩
  rw [e1] at hm1; rw [e2] at hm2; rw [e3] at hm3
  go_enter Try.func4, Try.ntmps4
  go_wp2_with fail
  refine (awake_calls _).mono ?_
  rintro e w1 ⟨rfl, hg1⟩
  have G1 := Lib.hid hg1
  clear hg1
  go_upto_if 21 with (fail)
  go_cut [8] (fun v wx => ∃ k : Nat, k ≤ 30 ∧ v = .int .i64 k ∧ w1 = wx)
  case first =>
    by_cases hneg : q1 < 0
    · have hw : IntKind.i64.wrap (-q1) = -q1 := wrap_id (by unfold I64; omega)
      go_wp2_with fail
      all_goals (go_meet; exact ⟨(-q1).toNat, by omega, by congr 1; omega, rfl⟩)
    · go_wp2_with fail
      all_goals (go_meet; exact ⟨q1.toNat, by omega, by congr 1; omega, rfl⟩)
  case rest =>
    obtain ⟨k, hk, rfl, rfl⟩ := hcut
    clear hm1 e1 q1
    go_upto_if 27 with (fail)
    go_cut [9] (fun v wx => ∃ k : Nat, k ≤ 20 ∧ v = .int .i64 k ∧ w1 = wx)
    case first =>
      by_cases hneg : q2 < 0
      · have hw : IntKind.i64.wrap (-q2) = -q2 := wrap_id (by unfold I64; omega)
        go_wp2_with fail
        all_goals (go_meet; exact ⟨(-q2).toNat, by omega, by congr 1; omega, rfl⟩)
      · go_wp2_with fail
        all_goals (go_meet; exact ⟨q2.toNat, by omega, by congr 1; omega, rfl⟩)
    case rest =>
      obtain ⟨n, hn, rfl, rfl⟩ := hcut
      clear hm2 e2 q2
      go_upto_if 33 with (fail)
      go_cut [10] (fun v wx => ∃ k : Nat, k ≤ 5 ∧ v = .int .i64 k ∧ w1 = wx)
      case first =>
        by_cases hneg : q3 < 0
        · have hw : IntKind.i64.wrap (-q3) = -q3 := wrap_id (by unfold I64; omega)
          go_wp2_with fail
          all_goals (go_meet; exact ⟨(-q3).toNat, by omega, by congr 1; omega, rfl⟩)
        · go_wp2_with fail
          all_goals (go_meet; exact ⟨q3.toNat, by omega, by congr 1; omega, rfl⟩)
      case rest =>
        obtain ⟨m, hm, rfl, rfl⟩ := hcut
        clear hm3 e3 q3
        go_wp2_with fail
        refine (hnew_calls k _).mono ?_
        rintro e w2 ⟨p, b, rfl, ha, hp, hb, hg⟩
        have hmk : mostH (k : Int) = k := by unfold mostH mn mx; repeat (first | split | omega)
        rw [hmk] at ha
        have hs1 := G1.out.size
        have H2 := Lib.hid (show OneH w w2 p b k [] from ⟨ha, G1.out.tr hg, by omega, by omega⟩)
        obtain ⟨N0, eN⟩ : ∃ N, w2.heap.size = N := ⟨_, rfl⟩
        have HN0 := Lib.hid (show b < N0 by rw [← eN]; exact ha.map.lt b rfl)
        have HNp := Lib.hid (show p < N0 by rw [← eN]; exact blk_lt ha.blk)
        have HNw := Lib.hid (show w.heap.size ≤ N0 by rw [← eN]; exact H2.out.gr.size)
        have HNN := Lib.hid eN
        clear ha hp hb hg hmk hs1 eN G1
        go_wp2_with fail
        go_loopw [12, 13] (fun lv iv wr => ∃ i : Nat, i ≤ m ∧ iv = .int .i64 i ∧ Hid (wr.ownsRow N0 3 1 lv (upto i).length (encI (upto i))) ∧ Hid (OneH w wr p b k []) ∧ Hid (N0 ≤ wr.heap.size)) (fun _ iv _ => m - (intOf iv).toNat)
        case atStart => exact ⟨0, Nat.zero_le _, rfl, Lib.hid (World.ownsRow_nil _ _ _ _), H2, Lib.hid (by have := HNN.out; omega)⟩
        case round =>
          obtain ⟨i, hi, rfl, Hrow, HO, HNr⟩ := hrel
          obtain ⟨ua, uc, rfl⟩ := own_slice Hrow.out
          have hul := upto_len i
          by_cases hlt : i < m
          · have hlt' : (i : Int) < m := by omega
            go_wp2_with (at_builtin; refine Hid.out ?_)
            apply Lib.hid
            have hgw := Gr.al (Gr.rfl' (w := wr)) (.cells #[.int .i64 (i : Int)] 3)
            have hro := own_gr Hrow.out hgw
            rw [← encI_flat] at hro
            refine wpList_snoc (fun y : Int => [.int .i64 y]) 1 8 (fun _ => rfl) (by decide) (by decide) intC_one rfl (.tmp 45) (.tmp 47) 23 rfl N0 3 _ Try.underlying23 infoInt rfl (.slice ua (upto i).length uc) (upto i) rfl hro (i : Int) wr.heap.size rfl (heap_alloc_new wr _) (by omega) (Nat.le_trans HNr.out hgw.size) (fun a6 c6 w6 ho6 hg6 hat6 => ?_)
            rw [encI_flat, ← upto_succ] at ho6
            have hb6 : Bt (fun k => some k = (Value.slice ua (upto i).length uc).ownBlock) wr w6 := (Bt.of hgw).tr ⟨hg6.os, hg6.tape, hg6.output, hg6.size, fun j hj hne => hg6.block j hj (fun e => hne (e ▸ rfl))⟩
            have hown := fun j hj => (Hrow.out.lt j hj).1
            rw [hul] at ho6
            have Ho6 := Lib.hid ho6
            have HO6 := Lib.hid (show OneH w w6 p b k [] from ⟨HO.out.at_.bt hb6 (fun z => by have := hown p z.symm; have h1 := HNp.out; omega) (fun j hj z => by injection hj with hj; have := hown j z.symm; have := HN0.out; omega), hb6.gr HO.out.gr (fun j z => by have := hown j z.symm; have := HNw.out; omega), HO.out.np, HO.out.nb⟩)
            have HN6 := Lib.hid (Nat.le_trans HNr.out hb6.size)
            clear ho6 hg6 hat6 hown hgw hro hb6
            go_wp2_with fail
            go_roundw
            case rel => exact ⟨i + 1, by omega, by go_num, Ho6, HO6, HN6⟩
            case measure => simp [intOf]; omega
          · obtain rfl : i = m := by omega
            clear hul hlt
            go_wp2_with fail
            go_loopw [14, 15, 16] (fun hv iv sv wr => ∃ (j : Nat) (L : List Hk), j ≤ n ∧ iv = .int .i64 j ∧ hv = .int .i64 L.length ∧ L.length ≤ k ∧ Hid (Bd j L) ∧ Hid (OneH w wr p b k L) ∧ Hid (wr.ownsRow N0 3 1 (.slice ua (upto i).length uc) (upto i).length (encI (upto i)))) (fun _ iv _ _ => n - (intOf iv).toNat)
            case atStart => exact ⟨0, [], Nat.zero_le _, rfl, rfl, Nat.zero_le _, Lib.hid ⟨fun x hx => by cases hx⟩, HO, Hrow⟩
            case round =>
              obtain ⟨j, L, hj, rfl, rfl, hLk, HB, HO2, Hr2⟩ := hrel
              by_cases hlt : j < n
              · have hlt' : (j : Int) < n := by omega
                go_wp2_with fail
                refine (point_calls _ _).mono ?_
                rintro e w4 ⟨rfl, hg4⟩
                have HO4 := Lib.hid (HO2.out.grow hg4)
                have Hr4 := Lib.hid (own_gr Hr2.out hg4)
                clear hg4 HO2 Hr2 HO Hrow
                go_wp2_with fail
                refine (add_calls _ p (some b) k L HO4.out.at_ (by omega) (fun h => by cases h) (by omega) (ptA j) (show I64 0 by decide) _ (upto i) (rdRow_of_own Hr4.out) (by rw [upto_len]; omega)).mono ?_
                rintro e w5 ⟨rfl, ha5, hb5⟩
                have Hr5 := Lib.hid (own_bt Hr4.out hb5 (fun z hz e => by injection e with e; have := (Hr4.out.lt z hz).1; have := HN0.out; omega))
                have hao := HB.out.addOk hm (by omega) k
                have hmn : 0 ≤ (k : Int) ∧ (k : Int) ≤ 600 := by omega
                have hw1 : IntKind.i64.wrap ((L.length : Int) + (i : Int)) = (L.length : Int) + (i : Int) := wrap_id (by unfold I64; omega)
                by_cases hfit : (L.length : Int) + (i : Int) ≤ k
                · rw [if_pos (hao.2 hfit)] at ha5
                  rw [decide_eq_true (hao.2 hfit)]
                  have hln : (L ++ moreH L (ptA j) (upto i)).length = L.length + i := by rw [List.length_append, HB.out.more hm, List.length_map, upto_len]
                  have HO5 := Lib.hid (HO4.out.turn ha5 hb5)
                  have HB5 := Lib.hid (HB.out.next hm)
                  have hs5 := HB.out.owed hm
                  have HS5 := Lib.hid hs5
                  generalize L ++ moreH L (ptA j) (upto i) = L' at *
                  have HLn := Lib.hid hln
                  have hw2 : IntKind.i64.wrap ((k : Int) - ((L.length : Int) + (i : Int))) = (k : Int) - ((L.length : Int) + (i : Int)) := wrap_id (by unfold I64; omega)
                  clear ha5 hb5 hao hln hs5 HO4 Hr4
                  go_wp2_with fail
                  refine (hlen_calls _ p (some b) k L' HO5.out.at_).mono ?_
                  rintro e w6 ⟨rfl, hg6⟩
                  rw [HLn.out]
                  have HO6 := Lib.hid (HO5.out.grow hg6); have Hr6 := Lib.hid (own_gr Hr5.out hg6)
                  clear hg6 HO5 Hr5
                  go_wp2_with fail
                  refine (hroom_calls _ p (some b) k L' HO6.out.at_ hmn (by rw [HLn.out]; omega)).mono ?_
                  rintro e w7 ⟨rfl, hg7⟩
                  rw [HLn.out]
                  have HO7 := Lib.hid (HO6.out.grow hg7); have Hr7 := Lib.hid (own_gr Hr6.out hg7)
                  clear hg7 HO6 Hr6
                  go_wp2_with fail
                  refine (point_calls _ _).mono ?_
                  rintro e w8 ⟨rfl, hg8⟩
                  have HO8 := Lib.hid (HO7.out.grow hg8); have Hr8 := Lib.hid (own_gr Hr7.out hg8)
                  clear hg8 HO7 Hr7
                  go_wp2_with fail
                  refine (howed_calls _ p b k L' HO8.out.at_ (by rw [HLn.out]; omega) (ptA j)).mono ?_
                  rintro e w9 ⟨v9, rfl, hr9, hg9⟩
                  rw [HS5.out] at hr9
                  obtain ⟨a9, c9, rfl⟩ : ∃ a c, v9 = .slice a i c := by obtain ⟨_, a, c, e, _⟩ := hr9; exact ⟨a, c, e⟩
                  have HO9 := Lib.hid (HO8.out.grow hg9); have Hr9 := Lib.hid (own_gr Hr8.out hg9)
                  clear hr9 hg9 HO8 Hr8
                  go_wp2_with fail
                  refine (point_calls _ _).mono ?_
                  rintro e w10 ⟨rfl, hg10⟩
                  have HO10 := Lib.hid (HO9.out.grow hg10); have Hr10 := Lib.hid (own_gr Hr9.out hg10)
                  clear hg10 HO9 Hr9
                  go_wp2_with fail
                  refine (howed_calls _ p b k L' HO10.out.at_ (by rw [HLn.out]; omega) (ptA j)).mono ?_
                  rintro e w11 ⟨v11, rfl, hr11, hg11⟩
                  rw [HS5.out] at hr11
                  obtain ⟨z, a11, c11, rfl⟩ : ∃ z a c, v11 = .slice a z c := by obtain ⟨_, a, c, e, _⟩ := hr11; exact ⟨i, a, c, e⟩
                  have HO11 := Lib.hid (HO10.out.grow hg11); have Hr11 := Lib.hid (own_gr Hr10.out hg11)
                  clear hr11 hg11 HO10 Hr10
                  go_wp2_with fail
                  all_goals
                    go_roundw
                    case rel => exact ⟨j + 1, L', by omega, by go_num, by rw [HLn.out]; go_num, by rw [HLn.out]; omega, HB5, HO11, Hr11⟩
                    case measure => simp [intOf]; omega
                · rw [if_neg (fun z => hfit (hao.1 z))] at ha5
                  rw [decide_eq_false (fun z => hfit (hao.1 z))]
                  have HO5 := Lib.hid (HO4.out.turn ha5 hb5)
                  have HB5 := Lib.hid HB.out.stay
                  have HS5 := Lib.hid HB.out.owed0
                  have hw2 : IntKind.i64.wrap ((k : Int) - (L.length : Int)) = (k : Int) - (L.length : Int) := wrap_id (by unfold I64; omega)
                  clear ha5 hb5 hao HO4 Hr4
                  go_wp2_with fail
                  refine (hlen_calls _ p (some b) k L HO5.out.at_).mono ?_
                  rintro e w6 ⟨rfl, hg6⟩
                  have HO6 := Lib.hid (HO5.out.grow hg6); have Hr6 := Lib.hid (own_gr Hr5.out hg6)
                  clear hg6 HO5 Hr5
                  go_wp2_with fail
                  refine (hroom_calls _ p (some b) k L HO6.out.at_ hmn (by omega)).mono ?_
                  rintro e w7 ⟨rfl, hg7⟩
                  have HO7 := Lib.hid (HO6.out.grow hg7); have Hr7 := Lib.hid (own_gr Hr6.out hg7)
                  clear hg7 HO6 Hr6
                  go_wp2_with fail
                  refine (point_calls _ _).mono ?_
                  rintro e w8 ⟨rfl, hg8⟩
                  have HO8 := Lib.hid (HO7.out.grow hg8); have Hr8 := Lib.hid (own_gr Hr7.out hg8)
                  clear hg8 HO7 Hr7
                  go_wp2_with fail
                  refine (howed_calls _ p b k L HO8.out.at_ (by omega) (ptA j)).mono ?_
                  rintro e w9 ⟨v9, rfl, hr9, hg9⟩
                  rw [HS5.out] at hr9
                  obtain ⟨a9, c9, rfl⟩ : ∃ a c, v9 = .slice a 0 c := by obtain ⟨_, a, c, e, _⟩ := hr9; exact ⟨a, c, e⟩
                  have HO9 := Lib.hid (HO8.out.grow hg9); have Hr9 := Lib.hid (own_gr Hr8.out hg9)
                  have hi0 : ¬ i = 0 := by omega
                  have hi1 : ¬ 0 = i := by omega
                  clear hr9 hg9 HO8 Hr8
                  go_wp2_with fail
                  refine (point_calls _ _).mono ?_
                  rintro e w10 ⟨rfl, hg10⟩
                  have HO10 := Lib.hid (HO9.out.grow hg10); have Hr10 := Lib.hid (own_gr Hr9.out hg10)
                  clear hg10 HO9 Hr9
                  go_wp2_with fail
                  refine (howed_calls _ p b k L HO10.out.at_ (by omega) (ptA j)).mono ?_
                  rintro e w11 ⟨v11, rfl, hr11, hg11⟩
                  rw [HS5.out] at hr11
                  obtain ⟨a11, c11, rfl⟩ : ∃ a c, v11 = .slice a 0 c := by obtain ⟨_, a, c, e, _⟩ := hr11; exact ⟨a, c, e⟩
                  have HO11 := Lib.hid (HO10.out.grow hg11); have Hr11 := Lib.hid (own_gr Hr10.out hg11)
                  clear hr11 hg11 HO10 Hr10
                  go_wp2_with fail
                  all_goals
                    go_roundw
                    case rel => exact ⟨j + 1, L, by omega, by go_num, rfl, by omega, HB5, HO11, Hr11⟩
                    case measure => simp [intOf]; omega
              · obtain rfl : j = n := by omega
                go_wp2_with fail
                go_ret
                exact ⟨rfl, HO2.out.gr⟩
end Go.Proofs.Ytijgbfhjimlklaa
