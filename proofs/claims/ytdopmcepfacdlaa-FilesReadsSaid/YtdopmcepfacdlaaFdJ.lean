/- Package files: Append. -/
import Derived.Test.YtdopmcepfacdlaaFdI
namespace Go.Proofs.Ytdopmcepfacdlaa
open Go.RowKit Go.Maps
attribute [local go_sem] max2_mx min2_mn max_two' min_two'

def appE (F : Fd) (s t : ByteArray) : Int := if getE F s = 0 then (if F.room < (usedF F : Int) + t.size then 15 else stepE F) else getE F s
def appF (F : Fd) (s t : ByteArray) : Fd := match getV F s with
  | some n => if F.room < (usedF F : Int) + t.size then F else { stepF F with fl := updF F.fl n ⟨(F.fl n).b ++ t, (F.fl n).sy⟩ }
  | none => F
set_option maxRecDepth 100000 in
set_option maxHeartbeats 4000000 in
theorem append_calls (X : Nat → Prop) (w : World) (p : Nat) (F : Fd) (h : FdAt X w p F) (hup : F.on = true → F.up = true) (hs : I64 F.steps) (hlen : F.now.length ≤ 64) (hsz : ∀ x ∈ F.now, (F.fl x.2).b.size ≤ 1099511627776) (s t : ByteArray) (hm : s.size ≤ maxLen) (ht : t.size ≤ 1000000) :
    Calls Try.prog 15 #[.pointer (some ⟨p, 0, none⟩), .string s, .string t] w (MutPost X w p (appE F s t) (appF F s t)) := by
  have Hget := Lib.hid (get_calls X w p F h s hm)
  have Hst := Lib.hid (fun W (hg : Gr w W) => step_calls X W p F (h.gr hg) hs)
  have Hus := Lib.hid (fun (h0 : F.up = true) W (hg : Gr w W) => used_calls X W p F (h.gr hg) h0 hlen hsz)
  obtain ⟨nb, fb, sv, h1, _⟩ := h.blk
  obtain ⟨_, _, _, c3, _⟩ := fd_cells h1
  have C3 := Lib.hid (fun W (hg : Gr w W) => keepc hg c3)
  have HS := Lib.hid (fun h0 : getE F s = 0 => getV_some h0)
  have HUp := Lib.hid (fun h0 : getE F s = 0 => hup (get_zero h0).1)
  have HE := Lib.hid (show appE F s t = if getE F s = 0 then (if F.room < (usedF F : Int) + t.size then 15 else stepE F) else getE F s from rfl)
  have HR := Lib.hid (show appF F s t = match getV F s with | some n => if F.room < (usedF F : Int) + t.size then F else { stepF F with fl := updF F.fl n ⟨(F.fl n).b ++ t, (F.fl n).sy⟩ } | none => F from rfl)
  have HV := Lib.hid (fun n (hn : getV F s = some n) => (show F.has n ∧ _ from ⟨getV_has hn, h.files n (getV_has hn)⟩))
  have HN := Lib.hid (fun h0 : getE F s ≠ 0 => (show getV F s = none by unfold getV; rw [if_neg h0]))
  have HF := Lib.hid h
  have hule : usedF F ≤ 64 * 1099511627776 := Nat.le_trans (sizes_le hsz) (Nat.mul_le_mul_right _ hlen)
  have hsn : ∀ n, getV F s = some n → (F.fl n).b.size ≤ 1099511627776 := fun n hn => by
    unfold getV at hn
    split at hn
    · exact hsz _ (look_mem hn)
    · cases hn
  have HSn := Lib.hid hsn
  generalize appE F s t = ce at *
  generalize appF F s t = cf at *
  obtain ⟨g, hg⟩ : ∃ g, getE F s = g := ⟨_, rfl⟩
  obtain ⟨gv, hgv⟩ : ∃ g, getV F s = g := ⟨_, rfl⟩
  obtain ⟨u, hu⟩ : ∃ u, usedF F = u := ⟨_, rfl⟩
  rw [hg] at Hget HS HN HE HUp
  rw [hgv] at Hget HS HR HV HN HSn
  rw [hu] at HE HR Hus hule
  clear h hg hgv hu hup hsn hsz h1 c3 hlen
  by_cases h0 : g = 0
  · obtain ⟨n, rfl⟩ := HS.out h0
    have e1 : ce = if F.room < (u : Int) + t.size then 15 else stepE F := by rw [HE.out, if_pos h0]
    have hfl := HV.out n rfl
    have hus := Hus.out (HUp.out h0)
    subst h0
    have HFl := Lib.hid hfl; have HE2 := Lib.hid e1; have HUs := Lib.hid hus
    have HR2 := Lib.hid (show cf = if F.room < (u : Int) + t.size then F else { stepF F with fl := updF F.fl n ⟨(F.fl n).b ++ t, (F.fl n).sy⟩ } from HR.out)
    have hfs := HSn.out n rfl
    clear hfl HS HR HV HN HE e1 hus Hus HUp HSn
    have hwr : IntKind.i64.wrap ((u : Int) + (t.size : Int)) = (u : Int) + (t.size : Int) := wrap_id (by unfold I64; omega)
    go_enter Try.func15, Try.ntmps15
    go_wp2_with fail
    refine Hget.out.mono ?_
    rintro e w2 ⟨rfl, hb2⟩
    have G2 := Lib.hid hb2
    rw [ptr_some]
    unfold adr
    clear hb2
    go_wp2_with fail
    have cw3 := fun g : GrW w2 => C3.out g.w (G2.out.tr g.h)
    (refine region_gr (by kernel_rfl) (by kernel_rfl) ?_; (repeat (go_big_quiet_step ((first | (go_at_call 19; rename_i g9; refine (HUs.out _ (G2.out.tr g9.h)).mono ?_; rintro e w3 ⟨rfl, hb⟩; exact ⟨rfl, ⟨w3, g9.h.tr hb⟩, rfl⟩))))); refine wpQuiet_nil ?_; intro wq hw9; obtain ⟨g9, e9⟩ := hw9; have hwq := g9.h; rw [← e9] at hwq; clear e9 g9)
    have G3 := Lib.hid (G2.out.tr hwq)
    clear cw3 hwq
    by_cases hrm : F.room < (u : Int) + t.size
    · have e1 : ce = 15 := by rw [HE2.out, if_pos hrm]
      have e2 : cf = F := by rw [HR2.out, if_pos hrm]
      subst e1 e2
      go_wp2_with fail
      go_ret
      exact MutPost.same HF.out G3.out
    · have e1 : ce = stepE F := by rw [HE2.out, if_neg hrm]
      have e2 : cf = { stepF F with fl := updF F.fl n ⟨(F.fl n).b ++ t, (F.fl n).sy⟩ } := by rw [HR2.out, if_neg hrm]
      subst e1 e2
      go_wp2_with fail
      refine (Hst.out _ G3.out).mono ?_
      rintro e w3 ⟨rfl, hf3, hb3⟩
      have q4 := (stepF_parts F).2.2.2.1
      obtain ⟨y1, e3⟩ := hf3.files n (has_step HFl.out.1)
      rw [q4] at e3
      have c0 := (cell_of_row w3 n 0 _ _ _ e3).trans rfl
      have f0 := frozen_of_row w3 n 0 _ _ e3
      have HF3 := Lib.hid hf3; have HB3 := Lib.hid hb3; have E3 := Lib.hid e3; have Q4 := Lib.hid q4; have Y1 := Lib.hid y1
      clear hf3 hb3 e3 q4 y1
      go_wp2_with fail
      go_ret
      have hb4 : Bt (fun k => k = n) w3 (w3.setCell ⟨n, 0, none⟩ (.string ((F.fl n).b ++ t))) := Bt.row (grown_set w3 n 0 _) rfl
      have e4 := heap_setCell_same w3 n 0 _ _ (.string ((F.fl n).b ++ t)) E3.out
      have h4 := HF3.out.setFile (has_step HFl.out.1) ⟨(F.fl n).b ++ t, (F.fl n).sy⟩ hb4 e4
      rw [Q4.out] at h4
      have hb : Bt X w (w3.setCell ⟨n, 0, none⟩ (.string ((F.fl n).b ++ t))) := ((Bt.of G3.out).tr (HB3.out.mono (fun k _ z => by rw [z]; exact HF.out.xp))).tr (hb4.mono (fun k _ z => by rw [z]; exact Y1.out))
      exact ⟨rfl, h4.wid (fun _ hk => .inl hk) (Aft.lt HF.out.xlt hb.size), hb⟩
  · have e2 := HN.out h0
    subst e2
    have e1 : cf = F := HR.out
    have e3 : ce = g := by rw [HE.out, if_neg h0]
    subst e1 e3
    have hne : (ce != 0) = true := by simp [h0]
    clear HS HR HV HN HE HUp Hus
    go_enter Try.func15, Try.ntmps15
    go_wp2_with fail
    refine Hget.out.mono ?_
    rintro e w2 ⟨rfl, hb2⟩
    go_wp2_with fail
    go_ret
    exact MutPost.same HF.out hb2
end Go.Proofs.Ytdopmcepfacdlaa
