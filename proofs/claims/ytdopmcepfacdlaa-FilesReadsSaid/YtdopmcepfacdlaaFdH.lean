/- Package files: Read, Sync, On, Arm, Limit, New. -/
import Derived.Test.YtdopmcepfacdlaaFdG
namespace Go.Proofs.Ytdopmcepfacdlaa
open Go.RowKit Go.Maps
attribute [local go_sem] max2_mx min2_mn max_two' min_two'

theorem FdAt.setFile {X : Nat → Prop} {w w' : World} {p : Nat} {F : Fd} (h : FdAt X w p F) {n : Nat} (hn : F.has n) (x : Fl) (hb : Bt (fun k => k = n) w w') (e : w'.heap[n]? = some (.cells #[.string x.b, .int .i64 x.sy] 70 (0, 0))) :
    FdAt X w' p { F with fl := updF F.fl n x } := by
  obtain ⟨nb, fb, sv, g1, g2, g3, g4, g5, g6, g7, g8⟩ := h.blk
  have kn : Kd w n 70 := ⟨_, (h.files n hn).2⟩
  have kY : ∀ k, k = n → Kd w k 70 := fun k z => by subst z; exact kn
  refine ⟨fun k hk => Nat.lt_of_lt_of_le (h.xlt k hk) hb.size, h.xp, ⟨nb, fb, sv, (hb.block p (blk_lt g1) (fun z => by subst z; have := kn.one ⟨_, g1⟩; revert this; decide)).trans g1, g2.btk hb kY, g3.btk hb kY, g4, g5, g6, g7.bt hb (fun k z _ T hT => by rw [hT.one (kY k z)]; decide), g8⟩, fun m hm => ?_⟩
  have hm' : F.has m := hm
  obtain ⟨y, em⟩ := h.files m hm'
  refine ⟨y, ?_⟩
  show w'.heap[m]? = some (.cells #[.string (updF F.fl n x m).b, .int .i64 (updF F.fl n x m).sy] _ _)
  unfold updF
  by_cases e2 : m = n
  · subst e2; rw [if_pos rfl]; exact e
  · rw [if_neg e2]; exact (hb.block m (blk_lt em) e2).trans em
theorem getV_has {F : Fd} {s : ByteArray} {n : Nat} (h : getV F s = some n) : F.has n := by
  unfold getV at h
  split at h
  · exact .inl ⟨s, look_mem h⟩
  · cases h
theorem getV_some {F : Fd} {s : ByteArray} (h : getE F s = 0) : ∃ n, getV F s = some n := by
  unfold getV
  rw [if_pos h]
  exact Option.isSome_iff_exists.1 (get_zero h).2.2
def readB (F : Fd) (s : ByteArray) : ByteArray := match getV F s with
  | some n => (F.fl n).b
  | none => ⟨#[]⟩
set_option maxRecDepth 100000 in
set_option maxHeartbeats 1000000 in
theorem read_calls (X : Nat → Prop) (w : World) (p : Nat) (F : Fd) (h : FdAt X w p F) (s : ByteArray) (hm : s.size ≤ maxLen) :
    Calls Try.prog 18 #[.pointer (some ⟨p, 0, none⟩), .string s] w fun e w' => e = .returned (.tuple #[.string (readB F s), .int .i64 (getE F s)]) ∧ Gr w w' := by
  have Hget := Lib.hid (get_calls X w p F h s hm)
  have HS := Lib.hid (fun h0 : getE F s = 0 => getV_some h0)
  have HR := Lib.hid (show readB F s = match getV F s with | some n => (F.fl n).b | none => ⟨#[]⟩ from rfl)
  have HV := Lib.hid (fun n (hn : getV F s = some n) => (h.files n (getV_has hn)).2)
  have HN := Lib.hid (fun h0 : getE F s ≠ 0 => (show getV F s = none by unfold getV; rw [if_neg h0]))
  generalize readB F s = rb at *
  obtain ⟨g, hg⟩ : ∃ g, getE F s = g := ⟨_, rfl⟩
  obtain ⟨gv, hgv⟩ : ∃ g, getV F s = g := ⟨_, rfl⟩
  rw [hg] at Hget HS HN ⊢
  rw [hgv] at Hget HS HR HV HN
  clear h hg hgv
  by_cases h0 : g = 0
  · obtain ⟨n, rfl⟩ := HS.out h0
    have e1 : rb = (F.fl n).b := HR.out
    have hfl := HV.out n rfl
    subst h0 e1
    have HFl := Lib.hid hfl
    clear hfl HS HR HV HN
    go_enter Try.func18, Try.ntmps18
    go_wp2_with fail
    refine Hget.out.mono ?_
    rintro e w2 ⟨rfl, hb2⟩
    have c0 := (cell_of_row w2 n 0 _ _ _ (hb2.blk HFl.out)).trans rfl
    rw [ptr_some]
    unfold adr
    go_wp2_with fail
    exact bodyPost_ret (v := .tuple #[.string (F.fl n).b, .int .i64 0]) (by simp [results, Try.results18, go_sem]) rfl ⟨rfl, hb2⟩
  · have e2 := HN.out h0
    subst e2
    have e1 : rb = ⟨#[]⟩ := HR.out
    subst e1
    have hne : (g != 0) = true := by simp [h0]
    clear HS HR HV HN
    go_enter Try.func18, Try.ntmps18
    go_wp2_with fail
    refine Hget.out.mono ?_
    rintro e w2 ⟨rfl, hb2⟩
    go_wp2_with fail
    exact bodyPost_ret (v := .tuple #[.string ⟨#[]⟩, .int .i64 g]) (by simp [results, Try.results18, go_sem]) rfl ⟨rfl, hb2⟩
theorem read_nil (s : ByteArray) (w : World) : Calls Try.prog 18 #[.pointer none, .string s] w fun e w' => e = .returned (.tuple #[.string ⟨#[]⟩, .int .i64 1]) ∧ Gr w w' := by
  go_enter Try.func18, Try.ntmps18
  go_wp2_with fail
  refine (get_nil _ _).mono ?_
  rintro e w' ⟨rfl, hb⟩
  go_wp2_with fail
  exact bodyPost_ret (v := .tuple #[.string ⟨#[]⟩, .int .i64 1]) (by simp [results, Try.results18, go_sem]) rfl ⟨rfl, hb⟩
def syncE (F : Fd) (s : ByteArray) : Int := if getE F s = 0 then stepE F else getE F s
def syncF (F : Fd) (s : ByteArray) : Fd := match getV F s with
  | some n => if stepE F = 0 then { stepF F with fl := updF F.fl n ⟨(F.fl n).b, (F.fl n).b.size⟩ } else stepF F
  | none => F
theorem has_step {F : Fd} {n : Nat} (h : F.has n) : (stepF F).has n := by
  obtain ⟨q1, q2, q3, _⟩ := stepF_parts F
  unfold Fd.has at h ⊢; rw [q1, q2, q3]; exact h
set_option maxRecDepth 100000 in
set_option maxHeartbeats 2000000 in
theorem sync_calls (X : Nat → Prop) (w : World) (p : Nat) (F : Fd) (h : FdAt X w p F) (hs : I64 F.steps) (s : ByteArray) (hm : s.size ≤ maxLen) :
    Calls Try.prog 16 #[.pointer (some ⟨p, 0, none⟩), .string s] w (MutPost X w p (syncE F s) (syncF F s)) := by
  have Hget := Lib.hid (get_calls X w p F h s hm)
  have Hst := Lib.hid (fun W (hg : Gr w W) => step_calls X W p F (h.gr hg) hs)
  have HS := Lib.hid (fun h0 : getE F s = 0 => getV_some h0)
  have HE := Lib.hid (show syncE F s = if getE F s = 0 then stepE F else getE F s from rfl)
  have HR := Lib.hid (show syncF F s = match getV F s with | some n => if stepE F = 0 then { stepF F with fl := updF F.fl n ⟨(F.fl n).b, (F.fl n).b.size⟩ } else stepF F | none => F from rfl)
  have HV := Lib.hid (fun n (hn : getV F s = some n) => (show F.has n ∧ _ from ⟨getV_has hn, h.files n (getV_has hn)⟩))
  have HN := Lib.hid (fun h0 : getE F s ≠ 0 => (show getV F s = none by unfold getV; rw [if_neg h0]))
  have HF := Lib.hid h
  generalize syncE F s = ce at *
  generalize syncF F s = cf at *
  obtain ⟨g, hg⟩ : ∃ g, getE F s = g := ⟨_, rfl⟩
  obtain ⟨gv, hgv⟩ : ∃ g, getV F s = g := ⟨_, rfl⟩
  obtain ⟨se, hse⟩ : ∃ g, stepE F = g := ⟨_, rfl⟩
  rw [hg] at Hget HS HN HE
  rw [hgv] at Hget HS HR HV HN
  rw [hse] at Hst HR HE
  clear h hg hgv hse
  by_cases h0 : g = 0
  · obtain ⟨n, rfl⟩ := HS.out h0
    have e1 : ce = se := by rw [HE.out, if_pos h0]
    have hfl := HV.out n rfl
    subst h0 e1
    have HFl := Lib.hid hfl
    have HR2 := Lib.hid (show cf = if ce = 0 then { stepF F with fl := updF F.fl n ⟨(F.fl n).b, (F.fl n).b.size⟩ } else stepF F from HR.out)
    clear hfl HS HR HV HN HE
    go_enter Try.func16, Try.ntmps16
    go_wp2_with fail
    refine Hget.out.mono ?_
    rintro e w2 ⟨rfl, hb2⟩
    have G2 := Lib.hid hb2
    rw [ptr_some]
    unfold adr
    clear hb2
    by_cases hs0 : ce = 0
    · have e2 : cf = { stepF F with fl := updF F.fl n ⟨(F.fl n).b, (F.fl n).b.size⟩ } := by rw [HR2.out, if_pos hs0]
      subst hs0 e2
      go_wp2_with fail
      refine (Hst.out _ G2.out).mono ?_
      rintro e w3 ⟨rfl, hf3, hb3⟩
      have q4 := (stepF_parts F).2.2.2.1
      obtain ⟨y1, e3⟩ := hf3.files n (has_step HFl.out.1)
      rw [q4] at e3
      have c0 := (cell_of_row w3 n 0 _ _ _ e3).trans rfl
      have c1 := (cell_of_row w3 n 1 _ _ _ e3).trans rfl
      have f1 := frozen_of_row w3 n 1 _ _ e3
      have HF3 := Lib.hid hf3; have HB3 := Lib.hid hb3; have E3 := Lib.hid e3; have Q4 := Lib.hid q4; have Y1 := Lib.hid y1
      clear hf3 hb3 e3 q4 y1
      go_wp2_with fail
      go_ret
      have hb4 : Bt (fun k => k = n) w3 (w3.setCell ⟨n, 1, none⟩ (.int .i64 ((F.fl n).b.size : Int))) := Bt.row (grown_set w3 n 1 _) rfl
      have e4 := heap_setCell_same w3 n 1 _ _ (.int .i64 ((F.fl n).b.size : Int)) E3.out
      have h4 := HF3.out.setFile (has_step HFl.out.1) ⟨(F.fl n).b, (F.fl n).b.size⟩ hb4 e4
      rw [Q4.out] at h4
      have hb : Bt X w (w3.setCell ⟨n, 1, none⟩ (.int .i64 ((F.fl n).b.size : Int))) := ((Bt.of G2.out).tr (HB3.out.mono (fun k _ z => by rw [z]; exact HF.out.xp))).tr (hb4.mono (fun k _ z => by rw [z]; exact Y1.out))
      exact ⟨rfl, h4.wid (fun _ hk => .inl hk) (Aft.lt HF.out.xlt hb.size), hb⟩
    · have e2 : cf = stepF F := by rw [HR2.out, if_neg hs0]
      subst e2
      have hne : (ce == 0) = false := by simp [hs0]
      go_wp2_with fail
      refine (Hst.out _ G2.out).mono ?_
      rintro e w3 ⟨rfl, hf3, hb3⟩
      have HF3 := Lib.hid hf3; have HB3 := Lib.hid hb3
      clear hf3 hb3
      go_wp2_with fail
      go_ret
      have hb : Bt X w w3 := (Bt.of G2.out).tr (HB3.out.mono (fun k _ z => by rw [z]; exact HF.out.xp))
      exact ⟨rfl, HF3.out.wid (fun _ hk => .inl hk) (Aft.lt HF.out.xlt hb.size), hb⟩
  · have e2 := HN.out h0
    subst e2
    have e1 : cf = F := HR.out
    have e3 : ce = g := by rw [HE.out, if_neg h0]
    subst e1 e3
    have hne : (ce != 0) = true := by simp [h0]
    clear HS HR HV HN HE
    go_enter Try.func16, Try.ntmps16
    go_wp2_with fail
    refine Hget.out.mono ?_
    rintro e w2 ⟨rfl, hb2⟩
    go_wp2_with fail
    go_ret
    exact MutPost.same HF.out hb2
end Go.Proofs.Ytdopmcepfacdlaa
