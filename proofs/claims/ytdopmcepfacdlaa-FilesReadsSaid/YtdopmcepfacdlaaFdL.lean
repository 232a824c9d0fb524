/- Package files: SyncDir. -/
import Derived.Test.YtdopmcepfacdlaaFdK
namespace Go.Proofs.Ytdopmcepfacdlaa
open Go.RowKit Go.Maps
attribute [local go_sem] max2_mx min2_mn max_two' min_two'

theorem rd_none (w : World) : rdRow w 1 (.slice none 0 0) ([] : List ByteArray).length (encT []) := ⟨rfl, none, 0, rfl, Nat.le_refl _, fun h => absurd h (by decide)⟩
def sdirE (F : Fd) : Int := if rdyE F.on [] = 0 then stepE F else rdyE F.on []
def sdirF (F : Fd) : Fd := if rdyE F.on [] = 0 then (if stepE F = 0 then { stepF F with firm := F.now, since := [] } else stepF F) else F
theorem bad_nil : bad [] = false := rfl
set_option maxRecDepth 100000 in
set_option maxHeartbeats 2000000 in
theorem sdir_calls (X : Nat → Prop) (w : World) (p : Nat) (F : Fd) (h : FdAt X w p F) (hs : I64 F.steps) :
    Calls Try.prog 13 #[.pointer (some ⟨p, 0, none⟩)] w (MutPost X w p (sdirE F) (sdirF F)) := by
  obtain ⟨nb, fb, sv, h1, h2, _⟩ := h.blk
  obtain ⟨_, _, _, _, c4, _⟩ := fd_cells h1
  have Hrd := Lib.hid (ready_calls p F.on (.slice none 0 0) [] w c4 (rd_none w) (by simp) (fun s hs => by cases hs))
  have Hst := Lib.hid (step_calls X w p F h hs)
  have HE := Lib.hid (show sdirE F = if rdyE F.on [] = 0 then stepE F else rdyE F.on [] from rfl)
  have HR := Lib.hid (show sdirF F = if rdyE F.on [] = 0 then (if stepE F = 0 then { stepF F with firm := F.now, since := [] } else stepF F) else F from rfl)
  have HF := Lib.hid h
  generalize sdirE F = ce at *
  generalize sdirF F = cf at *
  obtain ⟨r, hr⟩ : ∃ g, rdyE F.on [] = g := ⟨_, rfl⟩
  obtain ⟨se, hse⟩ : ∃ g, stepE F = g := ⟨_, rfl⟩
  rw [hr] at Hrd HE HR
  rw [hse] at Hst HE HR
  clear h h1 h2 c4 hr hse
  by_cases h0 : r = 0
  · have e1 : ce = se := by rw [HE.out, if_pos h0]
    have HR2 := Lib.hid (show cf = if se = 0 then { stepF F with firm := F.now, since := [] } else stepF F by rw [HR.out, if_pos h0])
    subst h0 e1
    clear HE HR
    by_cases hs0 : ce = 0
    · have e2 : cf = { stepF F with firm := F.now, since := [] } := by rw [HR2.out, if_pos hs0]
      subst hs0 e2
      clear HR2
      go_enter Try.func13, Try.ntmps13
      go_wp2_with (first | (go_at_call 40; refine Hrd.out.mono ?_; rintro e w' ⟨rfl, rfl⟩) | (go_at_call 43; refine Hst.out.mono ?_; rintro e w1 ⟨rfl, hf1, hb1⟩; obtain ⟨nb, fb, sv, vs, e1, d1, x1, x2, x3, x4, r1, x5, rs1⟩ := hf1.opened; obtain ⟨c0, c1, c2, _⟩ := fd_cells e1))
      have HC := Lib.hid (clone_calls w1 nb _ d1)
      have E1 := Lib.hid e1; have D1 := Lib.hid d1; have XX := Lib.hid (And.intro x1 (And.intro x4 x2)); have RS1 := Lib.hid rs1; have HB1 := Lib.hid hb1; have HF1 := Lib.hid hf1
      clear e1 d1 x1 x2 x3 x4 r1 x5 rs1 hb1 hf1
      refine HC.out.mono ?_
      rintro e w2 ⟨mb, rfl, hd2, hm2, hn2, hg2⟩
      have e2 := hg2.blk E1.out
      obtain ⟨_, c1', c2', _⟩ := fd_cells e2
      have f1 := frozen_of_row w2 p 1 _ _ e2
      have f2 := frozen_of_row w2 p 2 _ _ e2
      have HD2 := Lib.hid hd2; have HM2 := Lib.hid hm2; have HN2 := Lib.hid hn2; have HG2 := Lib.hid hg2; have E2 := Lib.hid e2
      clear hd2 hm2 hn2 hg2 e2 HC
      go_wp2_with fail
      go_ret
      have hb3 : Bt (fun k => k = p) w2 (w2.setCell ⟨p, 1, none⟩ (.map mb)) := Bt.row (grown_set w2 p 1 _) rfl
      have e3 := heap_setCell_same w2 p 1 _ _ (.map mb) E2.out
      have hb4 : Bt (fun k => k = p) (w2.setCell ⟨p, 1, none⟩ (.map mb)) ((w2.setCell ⟨p, 1, none⟩ (.map mb)).setCell ⟨p, 2, none⟩ (.slice none 0 0)) := Bt.row (grown_set _ p 2 _) rfl
      have e4 := heap_setCell_same (w2.setCell ⟨p, 1, none⟩ (.map mb)) p 2 _ _ (.slice none 0 0) e3
      have hbp := hb3.tr hb4
      generalize (w2.setCell ⟨p, 1, none⟩ (.map mb)).setCell ⟨p, 2, none⟩ (.slice none 0 0) = w4 at *
      have kp : ∀ k, k = p → Kd w2 k 64 := fun k z => by subst z; exact ⟨_, E2.out⟩
      have hb : Bt X w w4 := ((HB1.out.mono (fun k _ z => by rw [z]; exact HF.out.xp)).tr (Bt.of HG2.out)).tr (hbp.mono (fun k _ z => by rw [z]; exact HF.out.xp))
      have q := stepF_parts F
      have hmz : ∀ k, mb = some k → w.heap.size ≤ k ∧ k < w4.heap.size := fun k e => ⟨Nat.le_trans HB1.out.size (HM2.out k e).1, Nat.lt_of_lt_of_le (HM2.out k e).2 hbp.size⟩
      refine ⟨rfl, FdAt.made (nb := nb) (fb := mb) (sv := .slice none 0 0) (vs := []) (Aft.lt HF.out.xlt hb.size) (.inl HF.out.xp) (e4.trans rfl) ((D1.out.gr HG2.out).btk hbp kp) (fun k e => .inl (XX.out.1 k e)) (fun k e => .inr (hmz k e)) (fun hne e => ?_) XX.out.2.1 (World.ownsRow_nil _ _ _ _) (fun k e => by simp [Value.ownBlock] at e) ⟨?_, fun i hi => absurd hi (by simp), fun n hn => ?_⟩, hb⟩
      · obtain ⟨b, rfl⟩ := nb_some hne
        have := (hmz b e.symm).1
        have := HF.out.xlt b (XX.out.1 b rfl)
        omega
      · have := HD2.out.btk hbp kp
        rw [q.1] at this
        exact this
      · have hn1 : (stepF F).has n := by
          rcases hn with ⟨s, hn⟩ | ⟨s, hn⟩ | ⟨s, hn⟩
          · exact .inl ⟨s, hn⟩
          · exact .inl ⟨s, by rw [q.1]; exact hn⟩
          · cases hn
        obtain ⟨y, em⟩ := RS1.out.files n hn1
        refine ⟨.inl y, ?_⟩
        have em2 := HG2.out.blk em
        exact (hbp.block n (blk_lt em2) (fun z => by subst z; have := (kp n rfl).one ⟨_, em2⟩; revert this; decide)).trans em2
    · have e2 : cf = stepF F := by rw [HR2.out, if_neg hs0]
      subst e2
      clear HR2
      have hne : (ce == 0) = false := by simp [hs0]
      go_enter Try.func13, Try.ntmps13
      go_wp2_with (first | (go_at_call 40; refine Hrd.out.mono ?_; rintro e w' ⟨rfl, rfl⟩) | (go_at_call 43; refine Hst.out.mono ?_; rintro e w1 ⟨rfl, hf1, hb1⟩))
      go_ret
      have hb : Bt X w w1 := hb1.mono (fun k _ z => by rw [z]; exact HF.out.xp)
      exact ⟨rfl, hf1.wid (fun _ hk => .inl hk) (Aft.lt HF.out.xlt hb.size), hb⟩
  · have e1 : ce = r := by rw [HE.out, if_neg h0]
    have e2 : cf = F := by rw [HR.out, if_neg h0]
    subst e1 e2
    have hne : (ce != 0) = true := by simp [h0]
    clear HE HR
    go_enter Try.func13, Try.ntmps13
    go_wp2_with (go_at_call 40; refine Hrd.out.mono ?_; rintro e w' ⟨rfl, rfl⟩)
    go_ret
    exact MutPost.same HF.out Gr.rfl'
end Go.Proofs.Ytdopmcepfacdlaa
