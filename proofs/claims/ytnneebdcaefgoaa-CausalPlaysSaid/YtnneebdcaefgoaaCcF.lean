/- The reference's buffer: Sure, Lacks. -/
import Derived.Test.YtnneebdcaefgoaaCcE
namespace Go.Proofs.Ytnneebdcaefgoaa
open Go.RowKit Go.Maps

theorem findI_ge {l : List Rec} {s q : Int} : -1 ≤ findI l s q ∧ findI l s q ≤ l.length := by
  unfold findI
  cases h : l.findIdx? (fun r => decide (r.st = s ∧ r.q = q)) with
  | none => simp
  | some i =>
    obtain ⟨hi, _⟩ := find_idx h
    simp; omega
set_option maxRecDepth 100000 in
set_option maxHeartbeats 4000000 in
theorem rsure_calls {X : Nat → Prop} (w : World) (p N : Nat) (most : Int) (out : List Int) (v : Value) (L : List (Rec × Value)) (h : RefX X w p N most out v L) (ho : out.length ≤ 1000000) (hn : L.length ≤ 1000)
    (B : Buf) (hP : Pair B most out (recsOf L)) (hq : ∀ s q, (B.f s q).isSome = true → q ≤ topN) :
    Calls Try.prog 27 #[.pointer (some ⟨p, 0, none⟩)] w (SurePost w B) := by
  obtain ⟨ov, hb, hr⟩ := h.blk
  have Hat := Lib.hid (fun W (hg : Gr w W) (s : Int) => rat_calls ov out s W (hr.1.gr hg) ho)
  have Hfd := Lib.hid (fun W (hg : Gr w W) (s q : Int) => find_calls W p N most out v L (h.gr' hg) hn s q)
  have C1 := Lib.hid (fun W (hg : Gr w W) => keepc hg ((cell_of_row w p 1 _ _ _ hb).trans rfl))
  have HQ := Lib.hid hq; have HR := Lib.hid hr.1; have HP := Lib.hid hP
  obtain ⟨ao, co, rfl, _⟩ := rd_at hr.1
  have hBo : B.out = out := hP.out
  clear h hb hr hq hP
  go_enter Try.func27, Try.ntmps27
  have c0 := C1.out w Gr.rfl'
  go_wp2_with fail
  go_loopw [3, 4] (fun v i wr => ∃ (k : Nat) (l : List Int), k ≤ 8 ∧ i = .int .i64 k ∧ rdRow wr 1 v l.length (encI l) ∧ Hid (SureV B k l) ∧ Gr w wr) (fun _ i _ => 8 - (intOf i).toNat)
  case atStart => exact ⟨0, out, by omega, rfl, HR.out, Lib.hid ⟨ho, fun h => absurd rfl h, fun i hi => ⟨fun h => absurd h (by omega), fun _ => by rw [hBo]⟩⟩, Gr.rfl'⟩
  case round =>
    obtain ⟨k, l, hk8, rfl, hrd, hS, hg⟩ := hrel
    obtain ⟨a3, n3, rfl, _⟩ := rd_at hrd
    have Hrd := Lib.hid hrd
    clear hrd
    by_cases hlt : k < 8
    · have hlt' : (k : Int) < 8 := by omega
      have hann := atV_nn out (k : Int)
      have HA := Lib.hid hann
      have c1 := C1.out wr hg
      clear hann
      go_wp2_with (go_at_call 19; refine (Hat.out _ hg _).mono ?_; rintro e w2 ⟨rfl, hb⟩; have hg2 := hg.tr hb; have Hrd2 := Lib.hid (Hrd.out.gr hb); clear hb)
      obtain ⟨wo, rfl⟩ : ∃ wo : World, wo = w2 := ⟨_, rfl⟩
      go_loopw [5] (fun nv wr => ∃ n : Int, nv = .int .i64 n ∧ atV out k ≤ n ∧ n ≤ topN ∧ wo = wr ∧ Hid (∀ q, atV out k < q → q ≤ n → (B.f k q).isSome = true)) (fun nv _ => (topN + 3 - intOf nv).toNat)
      case atStart => exact ⟨_, rfl, Int.le_refl _, HA.out.2, rfl, Lib.hid (fun q h1 h2 => absurd h1 (by omega))⟩
      case round =>
        obtain ⟨n, rfl, hn1, hn2, rfl, hR⟩ := hrel
        have hwr : IntKind.i64.wrap (n + 1) = n + 1 := wrap_id (by have := HA.out; unfold topN at hn2 this; unfold I64; omega)
        have hfd := Hfd.out wo hg2 (k : Int) (n + 1)
        have hge := findI_ge (l := recsOf L) (s := (k : Int)) (q := n + 1)
        have hnn := findI_nn (l := recsOf L) (s := (k : Int)) (q := n + 1)
        rw [← HP.out.f] at hnn
        obtain ⟨z, hz⟩ : ∃ z, findI (recsOf L) (k : Int) (n + 1) = z := ⟨_, rfl⟩
        rw [hz] at hfd hge hnn
        have Hnn := Lib.hid hnn
        clear hz hnn
        by_cases h0 : 0 ≤ z
        · go_wp2_with (go_at_call 45; refine hfd.mono ?_; rintro e w3 ⟨rfl, rfl⟩)
          go_roundw
          case rel =>
            have h1 := Hnn.out.1 h0
            refine ⟨n + 1, rfl, by omega, HQ.out k (n + 1) h1, trivial, Lib.hid (fun q q1 q2 => ?_)⟩
            by_cases e2 : q = n + 1
            · subst e2; exact h1
            · exact hR.out q q1 (by omega)
          case measure => simp [intOf]; omega
        · have HE : Hid (RunEnd B k n) := Lib.hid (by
            refine ⟨by rw [hBo]; exact hn1, hn2, fun q q1 q2 => hR.out q (by rw [← hBo]; exact q1) q2, ?_⟩
            cases e : B.f k (n + 1) with
            | none => rfl
            | some x => exact absurd (Hnn.out.2 (by rw [e]; rfl)) h0)
          clear hR
          go_wp2_with (first | (go_at_call 45; refine hfd.mono ?_; rintro e w3 ⟨rfl, rfl⟩) | (go_at_call 20; refine (rwith_calls _ l k n _ Hrd2.out hS.out.1).mono ?_; rintro e w4 ⟨v4, rfl, ho4, hb4⟩; have hr4 := rdRow_of_own ho4; have hg4 := hg2.tr hb4; clear ho4 hb4))
          go_roundw
          case rel => exact ⟨k + 1, withV l k n, by omega, by go_num, hr4, Lib.hid (sure_step hS.out hlt HE.out), hg4⟩
          case measure => simp [intOf]; omega
    · obtain rfl : k = 8 := by omega
      have hlt' : ¬ (8 : Int) < 8 := by omega
      go_wp2_with fail
      go_ret
      obtain ⟨s1, s2, s3⟩ := hS.out
      have hl : vecOf (at8 l) = l := s2 (by omega)
      refine ⟨at8 l, _, fun i hi => (s3 i hi).1 hi, rfl, ?_, hg⟩
      rw [hl]
      exact Hrd.out
def hasS (l : List Rec) (s : Int) : Bool := l.any (fun r => decide (r.st = s))
def lkOne (out : List Int) (l : List Rec) (s : Int) : Bool := hasS l s && decide (findI l s (atV out s + 1) < 0)
/-- What the reference's Lacks tells, of the first n sites. -/
def lkR (out : List Int) (l : List Rec) : Nat → List Int
  | 0 => []
  | k + 1 => lkR out l k ++ if lkOne out l k then [(k : Int)] else []
theorem lkR_len (out : List Int) (l : List Rec) (k : Nat) : (lkR out l k).length ≤ k := by
  induction k with
  | zero => simp [lkR]
  | succ k ih => unfold lkR; rw [List.length_append]; split <;> simp <;> omega
theorem hasS_succ (L : List (Rec × Value)) (s : Int) (i : Nat) (hi : i < L.length) : hasS ((recsOf L).take (i + 1)) s = (hasS ((recsOf L).take i) s || decide (L[i].1.st = s)) := by
  have h : i < (recsOf L).length := by rw [recsOf_len]; exact hi
  unfold hasS
  rw [List.take_succ_eq_append_getElem h, List.any_append, recsOf_get]
  simp
set_option maxRecDepth 100000 in
set_option maxHeartbeats 4000000 in
theorem rlacks_calls {X : Nat → Prop} (w : World) (p N : Nat) (most : Int) (out : List Int) (v : Value) (L : List (Rec × Value)) (h : RefX X w p N most out v L) (ho : out.length ≤ 1000000) (hn : L.length ≤ 1000) :
    Calls Try.prog 28 #[.pointer (some ⟨p, 0, none⟩)] w fun e w' => ∃ v', e = .returned v' ∧ w'.ownsRow w.heap.size 3 1 v' (lkR out (recsOf L) 8).length (encI (lkR out (recsOf L) 8)) ∧ Gr w w' := by
  obtain ⟨ov, hb, hr⟩ := h.blk
  have Hat := Lib.hid (fun W (hg : Gr w W) (s : Int) => rat_calls ov out s W (hr.1.gr hg) ho)
  have Hfd := Lib.hid (fun W (hg : Gr w W) (s q : Int) => find_calls W p N most out v L (h.gr' hg) hn s q)
  obtain ⟨a, c, rfl, hc⟩ := h.form
  have C1 := Lib.hid (fun W (hg : Gr w W) => keepc hg ((cell_of_row w p 1 _ _ _ hb).trans rfl))
  have C2 := Lib.hid (fun W (hg : Gr w W) => keepc hg ((cell_of_row w p 2 _ _ _ hb).trans rfl))
  have HR := Lib.hid (rdRow_of_own h.own)
  have hlen := Lib.hid (lkR_len out (recsOf L))
  have h0 : lkR out (recsOf L) 0 = [] := rfl
  have hs := Lib.hid (show ∀ k : Nat, lkR out (recsOf L) (k + 1) = lkR out (recsOf L) k ++ if lkOne out (recsOf L) k then [(k : Int)] else [] from fun _ => rfl)
  generalize lkR out (recsOf L) = lk at *
  obtain ⟨i0, hi, hz0, hz1, hz2⟩ := info_parts infoInt
  clear h hb hr
  go_enter Try.func28, Try.ntmps28
  go_wp2_with fail
  go_loopw [3, 4] (fun u iv wr => ∃ k : Nat, k ≤ 8 ∧ iv = .int .i64 k ∧ wr.ownsRow w.heap.size 3 1 u (lk k).length (encI (lk k)) ∧ Gr w wr) (fun _ iv _ => 8 - (intOf iv).toNat)
  case atStart => exact ⟨0, by omega, rfl, by rw [h0]; exact World.ownsRow_nil _ _ _ _, Gr.rfl'⟩
  case round =>
    obtain ⟨k, hk8, rfl, hown, hg⟩ := hrel
    have hgz := hg.size
    obtain ⟨ua, uc, hu⟩ := own_slice hown
    subst hu
    have hln := hlen.out k
    have Hown := Lib.hid hown; clear hown
    by_cases hlt : k < 8
    · have hlt' : (k : Int) < 8 := by omega
      have c2 := C2.out wr hg
      go_wp2_with fail
      go_loopw [5, 6] (fun bv iv wx => ∃ (i : Nat) (b : Bool), i ≤ L.length ∧ iv = .int .i64 i ∧ bv = .bool b ∧ Hid (hasS ((recsOf L).take i) k = b) ∧ wr = wx) (fun _ iv _ => L.length - (intOf iv).toNat)
      case atStart => exact ⟨0, false, Nat.zero_le _, rfl, rfl, Lib.hid (by simp [hasS]), rfl⟩
      case round =>
        obtain ⟨i, b, hi1, rfl, rfl, hb, rfl⟩ := hrel
        by_cases hil : i < L.length
        · have h2 : (i : Int) < (L.length : Int) := by omega
          have h3 : (0 : Int) ≤ (i : Int) := by omega
          have Hs := Lib.hid (hasS_succ L k i hil)
          rw [hb.out] at Hs
          cases b
          · obtain ⟨bg, og, cg, eg, _, hrg⟩ := rd_range recL 9 (fun _ => rfl) (HR.out.gr hg) (by omega)
            injection eg with eg1 eg2 eg3
            subst eg1
            have c6 := hrg i hil 6 _ rfl
            clear hrg eg3
            generalize L[i] = x at *
            by_cases he : x.1.st = k
            · have he' : (x.1.st == (k : Int)) = true := by simp [he]
              have Hs' := Lib.hid (show hasS ((recsOf L).take (i + 1)) k = true by rw [Hs.out, decide_eq_true he]; rfl)
              clear he Hs
              go_wp2_with fail
              go_roundw
              case rel => exact ⟨i + 1, true, by omega, by go_num, rfl, Hs', trivial⟩
              case measure => simp [intOf]; omega
            · have he' : (x.1.st == (k : Int)) = false := by simp [he]
              have Hs' := Lib.hid (show hasS ((recsOf L).take (i + 1)) k = false by rw [Hs.out, decide_eq_false he]; rfl)
              clear he Hs
              go_wp2_with fail
              go_roundw
              case rel => exact ⟨i + 1, false, by omega, by go_num, rfl, Hs', trivial⟩
              case measure => simp [intOf]; omega
          · go_wp2_with fail
            go_roundw
            case rel => exact ⟨i + 1, true, by omega, by go_num, rfl, Lib.hid (by rw [Hs.out]; rfl), trivial⟩
            case measure => simp [intOf]; omega
        · have h2 : ¬ (i : Int) < (L.length : Int) := by omega
          have Hb := Lib.hid (show hasS (recsOf L) k = b by rw [← hb.out, List.take_of_length_le (by rw [recsOf_len]; omega)])
          clear hb
          cases b
          · have Hk := Lib.hid (show lk (k + 1) = lk k by rw [hs.out]; unfold lkOne; rw [Hb.out]; simp)
            go_wp2_with fail
            go_roundw
            case rel => exact ⟨k + 1, by omega, by go_num, by rw [Hk.out]; exact Hown.out, hg⟩
            case measure => simp [intOf]; omega
          · have c1 := C1.out wr hg
            have hann := atV_nn out (k : Int)
            have hone : lkOne out (recsOf L) k = decide (findI (recsOf L) k (atV out k + 1) < 0) := by unfold lkOne; rw [Hb.out]; rfl
            have hat := fun W (hg : Gr w W) => Hat.out W hg (k : Int)
            have hge := findI_ge (l := recsOf L) (s := (k : Int)) (q := atV out k + 1)
            have hfd := fun W (hg : Gr w W) => Hfd.out W hg (k : Int) (atV out (k : Int) + 1)
            obtain ⟨aa, haa⟩ : ∃ aa, atV out (k : Int) = aa := ⟨_, rfl⟩
            rw [haa] at hann hat hone hge hfd
            have hwr : IntKind.i64.wrap (aa + 1) = aa + 1 := wrap_id (by unfold topN at hann; unfold I64; omega)
            obtain ⟨z, hz⟩ : ∃ z, findI (recsOf L) (k : Int) (aa + 1) = z := ⟨_, rfl⟩
            rw [hz] at hone hge hfd
            have Hat2 := Lib.hid hat; have Hfd2 := Lib.hid hfd; have Hone := Lib.hid hone
            clear hat hfd hone hz haa hann
            by_cases hz0' : z < 0
            · have Hk := Lib.hid (show lk (k + 1) = lk k ++ [(k : Int)] by rw [hs.out, Hone.out, decide_eq_true hz0']; rfl)
              go_wp2_with (first | (go_at_call 19; refine (Hat2.out _ hg).mono ?_; rintro e w1 ⟨rfl, hb⟩; have hgb := Lib.hid (hg.tr hb); have how := Lib.hid (own_gr Hown.out hb)) | (go_at_call 45; refine (Hfd2.out _ hgb.out).mono ?_; rintro e w2 ⟨rfl, rfl⟩; have hgz1 := hgb.out.size) | (at_builtin; refine wpList_append_own _ rfl _ _ 31 rfl w.heap.size 3 i0 _ 1 8 Try.underlying31 hi hz0 hz1 hz2 rfl (by decide) _ _ _ rfl (how.out.alloc _) ⟨w1.heap.size, 0, none⟩ 1 1 [.int .i64 (k : Int)] rfl rfl (World.news_of_block (heap_alloc_new w1 _)) (by intro u hu; simp only [List.mem_cons, List.not_mem_nil, or_false] at hu; subst hu; rfl) (by unfold maxLen; omega) (by omega) (by simp; omega) ?_; intro v3 w3 hown3 hgrow3 _))
              go_roundw
              case rel => exact ⟨k + 1, by omega, by go_num, own_cast hown3 (by rw [Hk.out]; simp) (by rw [Hk.out, encI_snoc]), gr_gb (by exact Gr.al hgb.out _) hgrow3 (fun j hj => (how.out.lt j hj).1)⟩
              case measure => simp [intOf]; omega
            · have Hk := Lib.hid (show lk (k + 1) = lk k by rw [hs.out, Hone.out, decide_eq_false hz0']; simp)
              go_wp2_with (first | (go_at_call 19; refine (Hat2.out _ hg).mono ?_; rintro e w1 ⟨rfl, hb⟩; have hgb := Lib.hid (hg.tr hb); have how := Lib.hid (own_gr Hown.out hb)) | (go_at_call 45; refine (Hfd2.out _ hgb.out).mono ?_; rintro e w2 ⟨rfl, rfl⟩))
              go_roundw
              case rel => exact ⟨k + 1, by omega, by go_num, by rw [Hk.out]; exact how.out, hgb.out⟩
              case measure => simp [intOf]; omega
    · obtain rfl : k = 8 := by omega
      have hlt' : ¬ (8 : Int) < 8 := by omega
      go_wp2_with fail
      go_ret
      exact ⟨_, rfl, Hown.out, hg⟩
end Go.Proofs.Ytnneebdcaefgoaa
