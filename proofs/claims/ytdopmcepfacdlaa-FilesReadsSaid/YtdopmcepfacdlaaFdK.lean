/- Package files: New, On, Arm, Limit, SyncDir, Names. -/
import Derived.Test.YtdopmcepfacdlaaFdJ
namespace Go.Proofs.Ytdopmcepfacdlaa
open Go.RowKit Go.Maps
attribute [local go_sem] max2_mx min2_mn max_two' min_two'

def roomF (n : Int) : Int := mn (mx n 0) 1099511627776
theorem room_calls (n : Int) (w : World) : Calls Try.prog 39 #[.int .i64 n] w fun e w' => e = .returned (.int .i64 (roomF n)) ∧ w = w' := by
  unfold roomF
  go_enter Try.func39, Try.ntmps39
  go_wp2_with fail
  go_ret
  exact ⟨rfl, rfl⟩
def newF (n : Int) : Fd := ⟨[], [], [], roomF n, true, false, 0, true, fun _ => ⟨⟨#[]⟩, 0⟩⟩
theorem newF_has {n : Int} {m : Nat} (h : (newF n).has m) : False := by
  rcases h with ⟨s, h⟩ | ⟨s, h⟩ | ⟨s, h⟩ <;> cases h
set_option maxHeartbeats 1000000 in
theorem fnew_calls (n : Int) (w : World) : Calls Try.prog 11 #[.int .i64 n] w fun e w' => ∃ p, e = .returned (.pointer (some ⟨p, 0, none⟩)) ∧ FdAt (Aft (fun _ => False) w w') w' p (newF n) ∧ Gr w w' := by
  have hmm : ∀ w, (Instr.makeMap 61 none).run Try.prog w = .ok (.map (some w.heap.size)) (w.alloc (.map #[] 0)) := fun w => by simp [Instr.makeMap]
  go_enter Try.func11, Try.ntmps11
  go_wp2_with fail
  refine (room_calls n _).mono ?_
  rintro e w' ⟨rfl, rfl⟩
  obtain ⟨W1, e1, g1, b1, s1⟩ := al_out w (.map #[] 0)
  rw [e1]
  obtain ⟨W2, e2, g2, b2, s2⟩ := al_out W1 (.map #[] 0)
  rw [e2]
  have d1 : DirAt W2 (some w.heap.size) [] := by rw [← e1] at g2; exact (DirAt.made w).gr g2
  have d2 : DirAt W2 (some (w.heap.size + 1)) [] := by rw [← e2, ← s1]; exact DirAt.made W1
  have hG := Lib.hid (g1.tr g2); have D1 := Lib.hid d1; have D2 := Lib.hid d2; have S2 := Lib.hid (show W2.heap.size = w.heap.size + 2 by rw [s2, s1])
  clear e1 e2 g1 g2 b1 b2 s1 s2 d1 d2
  go_wp2_with fail
  go_ret
  have hp : W2.heap.size = w.heap.size + 2 := S2.out
  obtain ⟨W3, e3, g3, b3, s3⟩ := al_out W2 (.cells (fdC (newF n) (some w.heap.size) (some (w.heap.size + 1)) (.slice none 0 0)) 64)
  refine ⟨W2.heap.size, by rw [hp]; rfl, ?_, Gr.al hG.out _⟩
  show FdAt (Aft _ w (W2.alloc (.cells (fdC (newF n) (some w.heap.size) (some (w.heap.size + 1)) (.slice none 0 0)) 64))) (W2.alloc (.cells (fdC (newF n) (some w.heap.size) (some (w.heap.size + 1)) (.slice none 0 0)) 64)) _ _
  rw [e3]
  have hs := hG.out.size
  have hz : ∀ k, w.heap.size ≤ k → k ≤ w.heap.size + 2 → Aft (fun _ => False) w W3 k := fun k h1 h2 => .inr ⟨h1, by rw [s3, hp]; omega⟩
  exact FdAt.made (nb := some w.heap.size) (fb := some (w.heap.size + 1)) (sv := .slice none 0 0) (vs := []) (Aft.lt (fun _ h => h.elim) (by rw [s3]; omega)) (hz _ (by omega) (by omega)) b3 (D1.out.gr g3) (fun k e => by injection e with e; exact hz k (by omega) (by omega)) (fun k e => by injection e with e; exact hz k (by omega) (by omega)) (fun _ e => by injection e with e; omega) (fun _ => by simp) (World.ownsRow_nil _ _ _ _) (fun k e => by simp [Value.ownBlock] at e) ⟨D2.out.gr g3, fun i hi => absurd hi (by simp [newF]), fun m hm => (newF_has hm).elim⟩
theorem on_calls (X : Nat → Prop) (w : World) (p : Nat) (F : Fd) (h : FdAt X w p F) : Calls Try.prog 21 #[.pointer (some ⟨p, 0, none⟩)] w fun e w' => e = .returned (.bool F.on) ∧ w = w' := by
  obtain ⟨nb, fb, sv, h1, _⟩ := h.blk
  obtain ⟨_, _, _, _, c4, _⟩ := fd_cells h1
  clear h h1
  go_enter Try.func21, Try.ntmps21
  go_wp2_with fail
  go_ret
  exact ⟨rfl, rfl⟩
theorem on_nil (w : World) : Calls Try.prog 21 #[.pointer none] w fun e w' => e = .returned (.bool false) ∧ w = w' := by
  go_enter Try.func21, Try.ntmps21
  go_wp2_with fail
  go_ret
  exact ⟨rfl, rfl⟩
def VoidPost (X : Nat → Prop) (w : World) (p : Nat) (F' : Fd) (e : Ending) (w' : World) : Prop := e = .returned (.tuple #[]) ∧ FdAt X w' p F' ∧ Bt X w w'
theorem arm_calls (X : Nat → Prop) (w : World) (p : Nat) (F : Fd) (h : FdAt X w p F) (n : Int) : Calls Try.prog 20 #[.pointer (some ⟨p, 0, none⟩), .int .i64 n] w (VoidPost X w p { F with armed := true, steps := mx n 0 }) := by
  obtain ⟨nb, fb, sv, h1, _⟩ := h.blk
  obtain ⟨_, _, _, _, _, c5, c6⟩ := fd_cells h1
  have f5 := frozen_of_row w p 5 _ _ h1
  have f6 := frozen_of_row w p 6 _ _ h1
  have H := Lib.hid h; have H1 := Lib.hid h1
  unfold VoidPost
  clear h h1
  go_enter Try.func20, Try.ntmps20
  go_wp2_with fail
  have hb1 : Bt (fun k => k = p) w (w.setCell ⟨p, 5, none⟩ (.bool true)) := Bt.row (grown_set w p 5 _) rfl
  have hb2 : Bt (fun k => k = p) (w.setCell ⟨p, 5, none⟩ (.bool true)) ((w.setCell ⟨p, 5, none⟩ (.bool true)).setCell ⟨p, 6, none⟩ (.int .i64 (mx n 0))) := Bt.row (grown_set _ p 6 _) rfl
  have hb := hb1.tr hb2
  have e1 := heap_setCell_same w p 5 _ _ (.bool true) H1.out
  have e2 := heap_setCell_same (w.setCell ⟨p, 5, none⟩ (.bool true)) p 6 _ _ (.int .i64 (mx n 0)) e1
  have hf : FdAt X ((w.setCell ⟨p, 5, none⟩ (.bool true)).setCell ⟨p, 6, none⟩ (.int .i64 (mx n 0))) p { F with armed := true, steps := mx n 0 } := H.out.own hb H1.out e2 rfl rfl rfl rfl rfl
  exact ⟨rfl, .tuple #[], by kernel_rfl, rfl, hf, hb.mono (fun k _ z => by rw [z]; exact H.out.xp)⟩
theorem arm_nil (n : Int) (w : World) : Calls Try.prog 20 #[.pointer none, .int .i64 n] w fun e w' => e = .returned (.tuple #[]) ∧ w = w' := by
  go_enter Try.func20, Try.ntmps20
  go_wp2_with fail
  exact ⟨rfl, .tuple #[], by kernel_rfl, rfl, rfl⟩
theorem limit_calls (X : Nat → Prop) (w : World) (p : Nat) (F : Fd) (h : FdAt X w p F) (n : Int) : Calls Try.prog 33 #[.pointer (some ⟨p, 0, none⟩), .int .i64 n] w (VoidPost X w p { F with room := roomF n }) := by
  obtain ⟨nb, fb, sv, h1, _⟩ := h.blk
  obtain ⟨_, _, _, c3, _⟩ := fd_cells h1
  have f3 := frozen_of_row w p 3 _ _ h1
  have H := Lib.hid h; have H1 := Lib.hid h1
  unfold VoidPost
  clear h h1
  go_enter Try.func33, Try.ntmps33
  go_wp2_with (go_at_call 39; refine (room_calls n _).mono ?_; rintro e w' ⟨rfl, rfl⟩)
  have hb : Bt (fun k => k = p) w (w.setCell ⟨p, 3, none⟩ (.int .i64 (roomF n))) := Bt.row (grown_set w p 3 _) rfl
  have e1 := heap_setCell_same w p 3 _ _ (.int .i64 (roomF n)) H1.out
  have hf : FdAt X (w.setCell ⟨p, 3, none⟩ (.int .i64 (roomF n))) p { F with room := roomF n } := H.out.own hb H1.out e1 rfl rfl rfl rfl rfl
  exact ⟨rfl, .tuple #[], by kernel_rfl, rfl, hf, hb.mono (fun k _ z => by rw [z]; exact H.out.xp)⟩
theorem limit_nil (n : Int) (w : World) : Calls Try.prog 33 #[.pointer none, .int .i64 n] w fun e w' => e = .returned (.tuple #[]) ∧ w = w' := by
  go_enter Try.func33, Try.ntmps33
  go_wp2_with fail
  exact ⟨rfl, .tuple #[], by kernel_rfl, rfl, rfl⟩
set_option maxRecDepth 100000 in
theorem names_calls (X : Nat → Prop) (w : World) (p : Nat) (F : Fd) (h : FdAt X w p F) (hl : F.now.length ≤ 1000000) : Calls Try.prog 24 #[.pointer (some ⟨p, 0, none⟩)] w fun e w' =>
    ∃ v, e = .returned v ∧ w'.ownsRow w.heap.size 9 1 v F.now.length (F.now.map fun x => .string x.1) ∧ Gr w w' := by
  obtain ⟨nb, fb, sv, h1, h2, _⟩ := h.blk
  obtain ⟨c0, _⟩ := fd_cells h1
  have HS := Lib.hid (sorted_calls w nb F.now h2 hl)
  clear h h1 h2
  go_enter Try.func24, Try.ntmps24
  go_wp2_with fail
  refine (mkeys_calls nb w).mono ?_
  rintro e w' ⟨rfl, rfl⟩
  go_wp2_with fail
  refine HS.out.mono ?_
  rintro e w2 ⟨v, rfl, ho, hg⟩
  obtain ⟨va, vc, rfl⟩ : ∃ a c, v = .slice a F.now.length c := by
    rcases ho.2 with ⟨rfl, h0⟩ | ⟨g, cap, cur, rfl, _⟩
    · exact ⟨none, 0, by rw [h0]⟩
    · exact ⟨_, cap, rfl⟩
  have HO := Lib.hid ho; have HG := Lib.hid ((show Gr w (w.alloc (.cells #[.map nb] 61)) from Gr.al Gr.rfl' _).tr hg)
  clear ho hg
  go_wp2_with fail
  go_ret
  exact ⟨_, rfl, HO.out, HG.out⟩
theorem names_nil (w : World) : Calls Try.prog 24 #[.pointer none] w fun e w' => e = .returned (.slice none 0 0) ∧ w = w' := by
  go_enter Try.func24, Try.ntmps24
  go_wp2_with fail
  go_ret
  exact ⟨rfl, rfl⟩
theorem used_nil (w : World) : Calls Try.prog 19 #[.pointer none] w fun e w' => e = .returned (.int .i64 0) ∧ w = w' := by
  go_enter Try.func19, Try.ntmps19
  go_wp2_with fail
  go_ret
  exact ⟨rfl, rfl⟩
end Go.Proofs.Ytdopmcepfacdlaa
