/- A folder as it lies in memory; step. -/
import Derived.Test.YtdopmcepfacdlaaFdB
namespace Go.Proofs.Ytdopmcepfacdlaa
open Go.RowKit Go.Maps
attribute [local go_sem] max2_mx min2_mn max_two' min_two'

/-- A file's bytes, and how many of them are synced. -/
structure Fl where
  b : ByteArray
  sy : Int
structure Fd where
  now : Dir
  firm : Dir
  since : List FOp
  room : Int
  on : Bool
  armed : Bool
  steps : Int
  up : Bool
  fl : Nat → Fl
/-- The files that it has. -/
def Fd.has (F : Fd) (n : Nat) : Prop := (∃ s, (s, n) ∈ F.now) ∨ (∃ s, (s, n) ∈ F.firm) ∨ ∃ s, FOp.cre s n ∈ F.since
/-- A block of cells of a type. -/
def Kd (w : World) (k : Nat) (T : TypeId) : Prop := ∃ cs, w.heap[k]? = some (.cells cs T (0, 0))
theorem Kd.one {w : World} {k : Nat} {T T' : TypeId} (h : Kd w k T) (h' : Kd w k T') : T = T' := by
  obtain ⟨cs, h⟩ := h; obtain ⟨cs', h'⟩ := h'
  rw [h] at h'; injection h' with h'; injection h'
theorem Kd.no {w : World} {k : Nat} {T : TypeId} (h : Kd w k T) {es : Array MapEntry} {c : Nat} (h' : w.heap[k]? = some (.map es c)) : False := by
  obtain ⟨cs, h⟩ := h
  rw [h] at h'; injection h' with h'; cases h'
def box (w : World) (k : Nat) (v : Value) (T : TypeId) : Prop := w.heap[k]? = some (.cells #[v] T (0, 0))
abbrev adr (k : Nat) : Value := .pointer (some ⟨k, 0, none⟩)
/-- A closure that stands for what happened. -/
def ClAt (X : Nat → Prop) (w : World) (v : Value) : FOp → Prop
  | .cre s n => s.size ≤ 20 ∧ ∃ bx bn, v = .func (.func 42) #[] #[adr bx, adr bn] ∧ X bx ∧ X bn ∧ box w bx (ptr (some n)) 67 ∧ box w bn (.string s) 9
  | .del s => s.size ≤ 20 ∧ ∃ bn, v = .func (.func 50) #[] #[adr bn] ∧ X bn ∧ box w bn (.string s) 9
  | .ren s t => s.size ≤ 20 ∧ t.size ≤ 20 ∧ ∃ bn bt, v = .func (.func 49) #[] #[adr bn, adr bt] ∧ X bn ∧ X bt ∧ box w bn (.string s) 9 ∧ box w bt (.string t) 9
def SinceAt (X : Nat → Prop) (w : World) (sv : Value) (os : List FOp) : Prop :=
  ∃ vs : List Value, w.ownsRow 0 72 1 sv os.length vs ∧ (∀ k, sv.ownBlock = some k → X k) ∧ ∀ i (hi : i < os.length), ∃ v, vs[i]? = some v ∧ ClAt X w v os[i]
section
variable {X Y Z : Nat → Prop} {w w' : World} {v sv : Value} {os : List FOp} {o : FOp}
theorem box.bt {k : Nat} {u : Value} {T : TypeId} (h : box w k u T) (hb : Bt Y w w') (hy : ¬ Y k) : box w' k u T := (hb.block k (blk_lt h) hy).trans h
theorem box.kd {k : Nat} {u : Value} {T : TypeId} (h : box w k u T) : Kd w k T := ⟨_, h⟩
theorem box.cell {k : Nat} {u : Value} {T : TypeId} (h : box w k u T) : w.cell? ⟨k, 0, none⟩ = some u := (cell_of_row w k 0 _ _ _ h).trans rfl
theorem ClAt.bt (h : ClAt X w v o) (hb : Bt Y w w') (hy : ∀ k, Y k → X k → ∀ T, Kd w k T → T ≠ 67 ∧ T ≠ 9) : ClAt X w' v o := by
  cases o with
  | cre s n =>
    obtain ⟨h0, bx, bn, e, x1, x2, h1, h2⟩ := h
    exact ⟨h0, bx, bn, e, x1, x2, h1.bt hb (fun z => (hy _ z x1 _ h1.kd).1 rfl), h2.bt hb (fun z => (hy _ z x2 _ h2.kd).2 rfl)⟩
  | del s =>
    obtain ⟨h0, bn, e, x2, h2⟩ := h
    exact ⟨h0, bn, e, x2, h2.bt hb (fun z => (hy _ z x2 _ h2.kd).2 rfl)⟩
  | ren s t =>
    obtain ⟨h0, h00, bn, bt, e, x1, x2, h1, h2⟩ := h
    exact ⟨h0, h00, bn, bt, e, x1, x2, h1.bt hb (fun z => (hy _ z x1 _ h1.kd).2 rfl), h2.bt hb (fun z => (hy _ z x2 _ h2.kd).2 rfl)⟩
theorem ClAt.wid (h : ClAt X w v o) (hx : ∀ k, X k → Z k) : ClAt Z w v o := by
  cases o with
  | cre s n => obtain ⟨h0, bx, bn, e, x1, x2, h1⟩ := h; exact ⟨h0, bx, bn, e, hx _ x1, hx _ x2, h1⟩
  | del s => obtain ⟨h0, bn, e, x2, h2⟩ := h; exact ⟨h0, bn, e, hx _ x2, h2⟩
  | ren s t => obtain ⟨h0, h00, bn, bt, e, x1, x2, h1⟩ := h; exact ⟨h0, h00, bn, bt, e, hx _ x1, hx _ x2, h1⟩
theorem own_kd {base e n : Nat} {xs : List Value} (h : w.ownsRow base e 1 sv n xs) {k : Nat} (hk : sv.ownBlock = some k) : Kd w k e := by
  rcases h.2 with ⟨rfl, _⟩ | ⟨g, cap, cur, rfl, _, hg, _⟩
  · simp [Value.ownBlock] at hk
  · simp only [Value.ownBlock, Option.some.injEq] at hk; subst hk; exact ⟨cur, hg⟩
theorem SinceAt.bt (h : SinceAt X w sv os) (hb : Bt Y w w') (hy : ∀ k, Y k → X k → ∀ T, Kd w k T → T ≠ 72 ∧ T ≠ 67 ∧ T ≠ 9) : SinceAt X w' sv os := by
  obtain ⟨vs, h1, h2, h3⟩ := h
  refine ⟨vs, own_bt h1 hb (fun k e z => (hy k z (h2 k e) _ (own_kd h1 e)).1 rfl), h2, fun i hi => ?_⟩
  obtain ⟨v, e, hc⟩ := h3 i hi
  exact ⟨v, e, hc.bt hb (fun k z x T hT => (hy k z x T hT).2)⟩
theorem SinceAt.wid (h : SinceAt X w sv os) (hx : ∀ k, X k → Z k) : SinceAt Z w sv os := by
  obtain ⟨vs, h1, h2, h3⟩ := h
  refine ⟨vs, h1, fun k e => hx k (h2 k e), fun i hi => ?_⟩
  obtain ⟨v, e, hc⟩ := h3 i hi
  exact ⟨v, e, hc.wid hx⟩
end
/-- The seven cells of a folder. -/
def fdC (F : Fd) (nb fb : Option Nat) (sv : Value) : Array Value := #[.map nb, .map fb, sv, .int .i64 F.room, .bool F.on, .bool F.armed, .int .i64 F.steps]
structure FdAt (X : Nat → Prop) (w : World) (p : Nat) (F : Fd) : Prop where
  xlt : ∀ k, X k → k < w.heap.size
  xp : X p
  blk : ∃ nb fb sv, w.heap[p]? = some (.cells (fdC F nb fb sv) 64 (0, 0)) ∧ DirAt w nb F.now ∧ DirAt w fb F.firm ∧ (∀ k, nb = some k → X k) ∧ (∀ k, fb = some k → X k) ∧ (nb ≠ none → nb ≠ fb) ∧ SinceAt X w sv F.since ∧ (F.up = true → nb ≠ none)
  files : ∀ n, F.has n → X n ∧ w.heap[n]? = some (.cells #[.string (F.fl n).b, .int .i64 (F.fl n).sy] 70 (0, 0))
section
variable {X Y Z : Nat → Prop} {w w' : World} {p : Nat} {F : Fd}
theorem FdAt.bt (h : FdAt X w p F) (hb : Bt Y w w') (hd : ∀ k, X k → ¬ Y k) : FdAt X w' p F := by
  obtain ⟨nb, fb, sv, h1, h2, h3, h4, h5, h6, h7⟩ := h.blk
  refine ⟨fun k hk => Nat.lt_of_lt_of_le (h.xlt k hk) hb.size, h.xp, ⟨nb, fb, sv, (hb.block p (blk_lt h1) (hd p h.xp)).trans h1, h2.bt hb (fun k e => hd k (h4 k e)), h3.bt hb (fun k e => hd k (h5 k e)), h4, h5, h6, h7.1.bt hb (fun k z x => absurd z (hd k x)), h7.2⟩, fun n hn => ?_⟩
  obtain ⟨x, e⟩ := h.files n hn
  exact ⟨x, (hb.block n (blk_lt e) (hd n x)).trans e⟩
theorem FdAt.gr (h : FdAt X w p F) (hg : Gr w w') : FdAt X w' p F := h.bt (Y := fun _ => False) (.of hg) (fun _ _ z => z)
theorem FdAt.wid (h : FdAt X w p F) (hx : ∀ k, X k → Z k) (hz : ∀ k, Z k → k < w.heap.size) : FdAt Z w p F := by
  obtain ⟨nb, fb, sv, h1, h2, h3, h4, h5, h6, h7⟩ := h.blk
  exact ⟨hz, hx p h.xp, ⟨nb, fb, sv, h1, h2, h3, fun k e => hx k (h4 k e), fun k e => hx k (h5 k e), h6, h7.1.wid hx, h7.2⟩, fun n hn => ⟨hx n (h.files n hn).1, (h.files n hn).2⟩⟩
/-- The folder's own cells turned: what else there is stays. -/
theorem FdAt.own (h : FdAt X w p F) {F' : Fd} (hb : Bt (fun k => k = p) w w') {nb fb : Option Nat} {sv : Value} (e0 : w.heap[p]? = some (.cells (fdC F nb fb sv) 64 (0, 0))) (e1 : w'.heap[p]? = some (.cells (fdC F' nb fb sv) 64 (0, 0)))
    (h1 : F'.now = F.now) (h2 : F'.firm = F.firm) (h3 : F'.since = F.since) (h4 : F'.fl = F.fl) (h5 : F'.up = F.up) : FdAt X w' p F' := by
  obtain ⟨nb', fb', sv', g1, g2, g3, g4, g5, g6, g7, g8⟩ := h.blk
  rw [e0] at g1
  injection g1 with g1; injection g1 with g1
  have ea : nb = nb' ∧ fb = fb' ∧ sv = sv' := by simpa [fdC] using g1
  obtain ⟨rfl, rfl, rfl⟩ := ea
  have kp : Kd w p 64 := ⟨_, e0⟩
  have hne : ∀ (mb : Option Nat) (l : Dir), DirAt w mb l → ∀ k, mb = some k → ¬ k = p := fun mb l hd k e z => by
    subst e; subst z
    obtain ⟨es, c, hm⟩ := hd.map
    exact kp.no hm
  refine ⟨fun k hk => Nat.lt_of_lt_of_le (h.xlt k hk) hb.size, h.xp, ⟨nb, fb, sv, e1, by rw [h1]; exact g2.bt hb (hne _ _ g2), by rw [h2]; exact g3.bt hb (hne _ _ g3), g4, g5, g6, by rw [h3]; exact g7.bt hb (fun k z _ T hT => by subst z; have := hT.one kp; subst this; decide), by rw [h5]; exact g8⟩, fun n hn => ?_⟩
  have hn' : F.has n := by unfold Fd.has at hn ⊢; rw [h1, h2, h3] at hn; exact hn
  obtain ⟨x, e⟩ := h.files n hn'
  rw [h4]
  exact ⟨x, (hb.block n (blk_lt e) (fun z => by subst z; have := kp.one ⟨_, e⟩; revert this; decide)).trans e⟩
end
theorem fd_cells {w : World} {p : Nat} {F : Fd} {nb fb : Option Nat} {sv : Value} (h : w.heap[p]? = some (.cells (fdC F nb fb sv) 64 (0, 0))) :
    w.cell? ⟨p, 0, none⟩ = some (.map nb) ∧ w.cell? ⟨p, 1, none⟩ = some (.map fb) ∧ w.cell? ⟨p, 2, none⟩ = some sv ∧ w.cell? ⟨p, 3, none⟩ = some (.int .i64 F.room) ∧ w.cell? ⟨p, 4, none⟩ = some (.bool F.on) ∧ w.cell? ⟨p, 5, none⟩ = some (.bool F.armed) ∧ w.cell? ⟨p, 6, none⟩ = some (.int .i64 F.steps) :=
  ⟨(cell_of_row w p 0 _ _ _ h).trans rfl, (cell_of_row w p 1 _ _ _ h).trans rfl, (cell_of_row w p 2 _ _ _ h).trans rfl, (cell_of_row w p 3 _ _ _ h).trans rfl, (cell_of_row w p 4 _ _ _ h).trans rfl, (cell_of_row w p 5 _ _ _ h).trans rfl, (cell_of_row w p 6 _ _ _ h).trans rfl⟩
def stepE (F : Fd) : Int := if F.armed = false then 0 else if 0 < F.steps then 0 else 14
def stepF (F : Fd) : Fd := if F.armed = false then F else if 0 < F.steps then { F with steps := F.steps - 1 } else { F with on := false }
set_option maxHeartbeats 1000000 in
theorem step_calls (X : Nat → Prop) (w : World) (p : Nat) (F : Fd) (h : FdAt X w p F) (hs : I64 F.steps) :
    Calls Try.prog 43 #[.pointer (some ⟨p, 0, none⟩)] w fun e w' => e = .returned (.int .i64 (stepE F)) ∧ FdAt X w' p (stepF F) ∧ Bt (fun k => k = p) w w' := by
  obtain ⟨nb, fb, sv, h1, _⟩ := h.blk
  have H := Lib.hid h; have H1 := Lib.hid h1
  obtain ⟨_, _, _, _, c4, c5, c6⟩ := fd_cells h1
  have f4 := frozen_of_row w p 4 _ _ h1
  have f6 := frozen_of_row w p 6 _ _ h1
  have HE := Lib.hid (show stepE F = if F.armed = false then 0 else if 0 < F.steps then 0 else 14 from rfl)
  have HF := Lib.hid (show stepF F = if F.armed = false then F else if 0 < F.steps then { F with steps := F.steps - 1 } else { F with on := false } from rfl)
  clear h h1
  rcases Bool.eq_false_or_eq_true F.armed with ha | ha
  · rw [ha] at c5
    have Ha : ¬ F.armed = false := by rw [ha]; decide
    have HA := Lib.hid Ha
    clear ha Ha
    by_cases hp : 0 < F.steps
    · have hwr : IntKind.i64.wrap (F.steps - 1) = F.steps - 1 := wrap_id (by unfold I64 at hs ⊢; omega)
      go_enter Try.func43, Try.ntmps43
      go_wp2_with fail
      go_ret
      have hb : Bt (fun k => k = p) w (w.setCell ⟨p, 6, none⟩ (.int .i64 (F.steps - 1))) := Bt.row (grown_set w p 6 _) rfl
      rw [HE.out, HF.out, if_neg HA.out, if_pos hp, if_neg HA.out, if_pos hp]
      exact ⟨rfl, H.out.own hb H1.out (by rw [heap_setCell_same w p 6 _ _ _ H1.out]; rfl) rfl rfl rfl rfl rfl, hb⟩
    · go_enter Try.func43, Try.ntmps43
      go_wp2_with fail
      go_ret
      have hb : Bt (fun k => k = p) w (w.setCell ⟨p, 4, none⟩ (.bool false)) := Bt.row (grown_set w p 4 _) rfl
      rw [HE.out, HF.out, if_neg HA.out, if_neg (by omega), if_neg HA.out, if_neg (by omega)]
      exact ⟨rfl, H.out.own hb H1.out (by rw [heap_setCell_same w p 4 _ _ _ H1.out]; rfl) rfl rfl rfl rfl rfl, hb⟩
  · rw [ha] at c5
    have HA := Lib.hid ha
    clear ha
    go_enter Try.func43, Try.ntmps43
    go_wp2_with fail
    go_ret
    rw [HE.out, HF.out, if_pos HA.out, if_pos HA.out]
    exact ⟨rfl, H.out, Bt.rfl'⟩
end Go.Proofs.Ytdopmcepfacdlaa
