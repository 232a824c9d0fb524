/- Package files: Delete, Rename. -/
import Derived.Test.YtdopmcepfacdlaaFdF
namespace Go.Proofs.Ytdopmcepfacdlaa
open Go.RowKit Go.Maps
attribute [local go_sem] max2_mx min2_mn max_two' min_two'

def MutPost (X : Nat → Prop) (w : World) (p : Nat) (E : Int) (F' : Fd) (e : Ending) (w' : World) : Prop :=
  e = .returned (.int .i64 E) ∧ FdAt (Aft X w w') w' p F' ∧ Bt X w w'
theorem MutPost.same {X : Nat → Prop} {w w' : World} {p : Nat} {F : Fd} {E : Int} (h : FdAt X w p F) (hg : Gr w w') : MutPost X w p E F (.returned (.int .i64 E)) w' := ⟨rfl, h.aft hg, .of hg⟩
def deleteE (F : Fd) (s : ByteArray) : Int := if getE F s = 0 then stepE F else getE F s
def deleteF (F : Fd) (s : ByteArray) : Fd := if getE F s = 0 then hapF F (.del s) else F
def renameE (F : Fd) (s t : ByteArray) : Int := if rdyE F.on [s, t] ≠ 0 then rdyE F.on [s, t] else if getE F s = 0 then stepE F else getE F s
def renameF (F : Fd) (s t : ByteArray) : Fd := if rdyE F.on [s, t] = 0 ∧ getE F s = 0 then hapF F (.ren s t) else F
theorem get_zero {F : Fd} {s : ByteArray} (h : getE F s = 0) : F.on = true ∧ NameOk s ∧ (look F.now s).isSome = true := by
  unfold getE at h
  by_cases h0 : rdyE F.on [s] = 0
  · rw [if_neg (fun z => z h0)] at h
    obtain ⟨h1, h2⟩ := rdy_zero h0
    refine ⟨h1, h2 s (List.mem_singleton.2 rfl), ?_⟩
    by_cases hl : (look F.now s).isSome = true
    · exact hl
    · rw [if_neg hl] at h; cases h
  · rw [if_pos h0] at h; exact absurd h h0
set_option maxRecDepth 100000 in
set_option maxHeartbeats 4000000 in
theorem delete_calls (X : Nat → Prop) (w : World) (p : Nat) (F : Fd) (h : FdAt X w p F) (hup : F.on = true → F.up = true) (hs : I64 F.steps) (hlen : F.now.length ≤ 64) (hsl : F.since.length ≤ 1000) (s : ByteArray) (hm : s.size ≤ maxLen) :
    Calls Try.prog 23 #[.pointer (some ⟨p, 0, none⟩), .string s] w (MutPost X w p (deleteE F s) (deleteF F s)) := by
  have Hget := Lib.hid (fun W (hg : Gr w W) => get_calls X W p F (h.gr hg) s hm)
  have HF := Lib.hid h
  have HE := Lib.hid (show deleteE F s = if getE F s = 0 then stepE F else getE F s from rfl)
  have HR := Lib.hid (show deleteF F s = if getE F s = 0 then hapF F (.del s) else F from rfl)
  have HZ := Lib.hid (fun h0 : getE F s = 0 => (show F.up = true ∧ s.size ≤ 20 from ⟨hup (get_zero h0).1, (get_zero h0).2.1.2.1⟩))
  generalize deleteE F s = ce at *
  generalize deleteF F s = cf at *
  obtain ⟨g, hg⟩ : ∃ g, getE F s = g := ⟨_, rfl⟩
  obtain ⟨gv, hgv⟩ : ∃ g, getV F s = g := ⟨_, rfl⟩
  rw [hg] at HE HR HZ Hget
  rw [hgv] at Hget
  clear h hup hg hgv
  by_cases h0 : g = 0
  · have e1 : ce = stepE F := by rw [HE.out, if_pos h0]
    have e2 : cf = hapF F (.del s) := by rw [HR.out, if_pos h0]
    have HZ2 := Lib.hid (HZ.out h0)
    subst h0 e1 e2
    clear HE HR HZ
    go_enter Try.func23, Try.ntmps23
    go_wp2_with fail
    obtain ⟨W1, e1, g1, b1, s1⟩ := al_out w (.cells #[.string s] 9)
    rw [e1]
    obtain ⟨A3, eA⟩ : ∃ A, w.heap.size = A := ⟨_, rfl⟩
    rw [eA] at b1 s1 ⊢
    have G1 := Lib.hid g1; have B1 := Lib.hid (show box W1 A3 (.string s) 9 from b1); have EA := Lib.hid eA; have S1 := Lib.hid s1
    have cb := (show box W1 A3 (.string s) 9 from b1).cell
    clear g1 b1 s1 e1 eA
    go_upto_region 4 with (go_at_call 45; with_reducible refine (Hget.out _ G1.out).mono ?_; rintro e w2 ⟨rfl, hb2⟩)
    have hG2 := G1.out.tr hb2
    have hap := happens_calls (Aft X w w2) w2 p F (HF.out.aft hG2) HZ2.out.1 hs (.del s) (.func (.func 50) #[] #[adr A3]) ⟨HZ2.out.2, A3, rfl, .inr ⟨by rw [EA.out]; exact Nat.le_refl _, blk_lt (hb2.blk B1.out)⟩, B1.out.bt (Bt.of (X := fun _ => False) hb2) (fun z => z)⟩ trivial (by omega) (by omega) (fun s' n' e => by cases e)
    have Hap := Lib.hid hap; have HG2 := Lib.hid hG2
    clear hap hG2 hb2 cb
    go_wp2_with fail
    refine Hap.out.mono ?_
    rintro e w6 ⟨rfl, hf6, hb6⟩
    obtain ⟨t1, t2⟩ := FdAt.tail HG2.out hf6 hb6
    have T1 := Lib.hid t1; have T2 := Lib.hid t2
    clear hf6 hb6 t1 t2
    go_wp2_with fail
    go_ret
    exact ⟨rfl, T1.out, T2.out⟩
  · have e1 : ce = g := by rw [HE.out, if_neg h0]
    have e2 : cf = F := by rw [HR.out, if_neg h0]
    subst e1 e2
    have hne : (ce != 0) = true := by simp [h0]
    clear HE HR HZ
    go_enter Try.func23, Try.ntmps23
    go_wp2_with fail
    obtain ⟨W1, e1, g1, b1, s1⟩ := al_out w (.cells #[.string s] 9)
    rw [e1]
    obtain ⟨A3, eA⟩ : ∃ A, w.heap.size = A := ⟨_, rfl⟩
    rw [eA] at b1 s1 ⊢
    have G1 := Lib.hid g1; have B1 := Lib.hid (show box W1 A3 (.string s) 9 from b1); have EA := Lib.hid eA; have S1 := Lib.hid s1
    have cb := (show box W1 A3 (.string s) 9 from b1).cell
    clear g1 b1 s1 e1 eA
    go_wp2_with (go_at_call 45; with_reducible refine (Hget.out _ G1.out).mono ?_; rintro e w2 ⟨rfl, hb2⟩)
    go_ret
    exact MutPost.same HF.out (G1.out.tr hb2)
set_option maxRecDepth 100000 in
set_option maxHeartbeats 4000000 in
theorem rename_calls (X : Nat → Prop) (w : World) (p : Nat) (F : Fd) (h : FdAt X w p F) (hup : F.on = true → F.up = true) (hs : I64 F.steps) (hlen : F.now.length ≤ 64) (hsl : F.since.length ≤ 1000) (s t : ByteArray) (hm : s.size ≤ maxLen) (hmt : t.size ≤ maxLen) :
    Calls Try.prog 22 #[.pointer (some ⟨p, 0, none⟩), .string s, .string t] w (MutPost X w p (renameE F s t) (renameF F s t)) := by
  obtain ⟨nb, fb, sv, h1, h2, _⟩ := h.blk
  obtain ⟨c0, _, _, _, c4, _, _⟩ := fd_cells h1
  have Hrd := Lib.hid (fun W (hg : Gr w W) v (hv : rdRow W 1 v [s, t].length (encT [s, t])) => ready_calls p F.on v [s, t] W (keepc hg c4) hv (by simp) (by simpa using ⟨hm, hmt⟩))
  have Hget := Lib.hid (fun W (hg : Gr w W) => get_calls X W p F (h.gr hg) s hm)
  have HF := Lib.hid h
  have HE := Lib.hid (show renameE F s t = if rdyE F.on [s, t] ≠ 0 then rdyE F.on [s, t] else if getE F s = 0 then stepE F else getE F s from rfl)
  have HR := Lib.hid (show renameF F s t = if rdyE F.on [s, t] = 0 ∧ getE F s = 0 then hapF F (.ren s t) else F from rfl)
  have HT := Lib.hid (fun h0 : rdyE F.on [s, t] = 0 => (show t.size ≤ 20 from ((rdy_zero h0).2 t (by simp)).2.1))
  have HZ := Lib.hid (fun h0 : getE F s = 0 => (show F.up = true ∧ s.size ≤ 20 ∧ (look F.now s).isSome = true from ⟨hup (get_zero h0).1, (get_zero h0).2.1.2.1, (get_zero h0).2.2⟩))
  generalize renameE F s t = ce at *
  generalize renameF F s t = cf at *
  obtain ⟨g, hg⟩ : ∃ g, getE F s = g := ⟨_, rfl⟩
  obtain ⟨gv, hgv⟩ : ∃ g, getV F s = g := ⟨_, rfl⟩
  obtain ⟨r, hr⟩ : ∃ g, rdyE F.on [s, t] = g := ⟨_, rfl⟩
  rw [hg] at HE HR HZ Hget
  rw [hgv] at Hget
  rw [hr] at HE HR Hrd HT
  clear h hup hg hgv h1 h2 c0 c4 hr
  by_cases h0 : r = 0
  · by_cases h0' : g = 0
    · have e1 : ce = stepE F := by rw [HE.out, if_neg (fun z => z h0), if_pos h0']
      have e2 : cf = hapF F (.ren s t) := by rw [HR.out, if_pos ⟨h0, h0'⟩]
      have HZ2 := Lib.hid (HZ.out h0'); have HT2 := Lib.hid (HT.out h0)
      subst h0 h0' e1 e2
      clear HE HR HZ HT
      go_enter Try.func22, Try.ntmps22
      go_wp2_with fail
      obtain ⟨W1, e1, g1, b1, s1⟩ := al_out w (.cells #[.string s] 9)
      rw [e1]
      obtain ⟨W2, e2, g2, b2, s2⟩ := al_out W1 (.cells #[.string t] 9)
      rw [e2]
      obtain ⟨A3, eA⟩ : ∃ A, w.heap.size = A := ⟨_, rfl⟩
      rw [eA] at b1 s1 ⊢
      rw [s1] at b2 s2
      have B1 := Lib.hid (show box W2 A3 (.string s) 9 from g2.blk b1); have EA := Lib.hid eA; have S2 := Lib.hid (show W2.heap.size = A3 + 1 + 1 from s2); have B2 := Lib.hid (show box W2 (A3 + 1) (.string t) 9 from b2); have G2 := Lib.hid (g1.tr g2)
      have cb := B1.out.cell; have cb2 := B2.out.cell
      clear g1 b1 s1 e1 eA g2 b2 s2 e2
      go_upto_region 7 with (first | (go_at_call 40; with_reducible refine (Hrd.out _ (Gr.al G2.out _) _ (rd_two' S2.out s t)).mono ?_; rintro e w' ⟨rfl, rfl⟩; have cb3 := keepc (show Gr W2 (W2.alloc (.cells #[.string s, .string t] 9)) from Gr.al Gr.rfl' _) cb) | (go_at_call 45; with_reducible refine (Hget.out _ (Gr.al G2.out _)).mono ?_; rintro e w3 ⟨rfl, hb3⟩))
      have hg23 : Gr W2 w3 := (Gr.al Gr.rfl' _).tr hb3
      have hG3 := G2.out.tr hg23
      have hap := happens_calls (Aft X w w3) w3 p F (HF.out.aft hG3) HZ2.out.1 hs (.ren s t) (.func (.func 49) #[] #[adr A3, adr (A3 + 1)]) ⟨HZ2.out.2.1, HT2.out, A3, A3 + 1, rfl, .inr ⟨by rw [EA.out]; exact Nat.le_refl _, blk_lt (hg23.blk B1.out)⟩, .inr ⟨by rw [EA.out]; omega, blk_lt (hg23.blk B2.out)⟩, B1.out.bt (Bt.of (X := fun _ => False) hg23) (fun z => z), B2.out.bt (Bt.of (X := fun _ => False) hg23) (fun z => z)⟩ HZ2.out.2.2 (by omega) (by omega) (fun s' n' e => by cases e)
      have Hap := Lib.hid hap; have HG2 := Lib.hid hG3
      clear hap hG3 hb3 hg23 cb cb2 cb3
      go_wp2_with fail
      refine Hap.out.mono ?_
      rintro e w6 ⟨rfl, hf6, hb6⟩
      obtain ⟨t1, t2⟩ := FdAt.tail HG2.out hf6 hb6
      have T1 := Lib.hid t1; have T2 := Lib.hid t2
      clear hf6 hb6 t1 t2
      go_wp2_with fail
      go_ret
      exact ⟨rfl, T1.out, T2.out⟩
    · have e1 : ce = g := by rw [HE.out, if_neg (fun z => z h0), if_neg h0']
      have e2 : cf = F := by rw [HR.out, if_neg (fun z => h0' z.2)]
      subst h0 e1 e2
      have hne : (ce != 0) = true := by simp [h0']
      clear HE HR HZ HT
      go_enter Try.func22, Try.ntmps22
      go_wp2_with fail
      obtain ⟨W1, e1, g1, b1, s1⟩ := al_out w (.cells #[.string s] 9)
      rw [e1]
      obtain ⟨W2, e2, g2, b2, s2⟩ := al_out W1 (.cells #[.string t] 9)
      rw [e2]
      obtain ⟨A3, eA⟩ : ∃ A, w.heap.size = A := ⟨_, rfl⟩
      rw [eA] at b1 s1 ⊢
      rw [s1] at b2 s2
      have B1 := Lib.hid (show box W2 A3 (.string s) 9 from g2.blk b1); have EA := Lib.hid eA; have S2 := Lib.hid (show W2.heap.size = A3 + 1 + 1 from s2); have B2 := Lib.hid (show box W2 (A3 + 1) (.string t) 9 from b2); have G2 := Lib.hid (g1.tr g2)
      have cb := B1.out.cell; have cb2 := B2.out.cell
      clear g1 b1 s1 e1 eA g2 b2 s2 e2
      go_wp2_with (first | (go_at_call 40; with_reducible refine (Hrd.out _ (Gr.al G2.out _) _ (rd_two' S2.out s t)).mono ?_; rintro e w' ⟨rfl, rfl⟩; have cb3 := keepc (show Gr W2 (W2.alloc (.cells #[.string s, .string t] 9)) from Gr.al Gr.rfl' _) cb) | (go_at_call 45; with_reducible refine (Hget.out _ (Gr.al G2.out _)).mono ?_; rintro e w3 ⟨rfl, hb3⟩))
      go_ret
      exact MutPost.same HF.out (G2.out.tr ((Gr.al Gr.rfl' _).tr hb3))
  · have e1 : ce = r := by rw [HE.out, if_pos h0]
    have e2 : cf = F := by rw [HR.out, if_neg (fun z => h0 z.1)]
    subst e1 e2
    have hne : (ce != 0) = true := by simp [h0]
    clear HE HR HZ HT
    go_enter Try.func22, Try.ntmps22
    go_wp2_with fail
    obtain ⟨W1, e1, g1, b1, s1⟩ := al_out w (.cells #[.string s] 9)
    rw [e1]
    obtain ⟨W2, e2, g2, b2, s2⟩ := al_out W1 (.cells #[.string t] 9)
    rw [e2]
    obtain ⟨A3, eA⟩ : ∃ A, w.heap.size = A := ⟨_, rfl⟩
    rw [eA] at b1 s1 ⊢
    rw [s1] at b2 s2
    have B1 := Lib.hid (show box W2 A3 (.string s) 9 from g2.blk b1); have EA := Lib.hid eA; have S2 := Lib.hid (show W2.heap.size = A3 + 1 + 1 from s2); have B2 := Lib.hid (show box W2 (A3 + 1) (.string t) 9 from b2); have G2 := Lib.hid (g1.tr g2)
    have cb := B1.out.cell; have cb2 := B2.out.cell
    clear g1 b1 s1 e1 eA g2 b2 s2 e2
    go_wp2_with (go_at_call 40; with_reducible refine (Hrd.out _ (Gr.al G2.out _) _ (rd_two' S2.out s t)).mono ?_; rintro e w' ⟨rfl, rfl⟩; have cb3 := keepc (show Gr W2 (W2.alloc (.cells #[.string s, .string t] 9)) from Gr.al Gr.rfl' _) cb)
    go_ret
    exact MutPost.same HF.out (Gr.al G2.out _)
end Go.Proofs.Ytdopmcepfacdlaa
