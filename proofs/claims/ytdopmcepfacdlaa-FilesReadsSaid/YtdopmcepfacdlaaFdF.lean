/- Package files: Create, Delete, Rename. -/
import Derived.Test.YtdopmcepfacdlaaFdE
namespace Go.Proofs.Ytdopmcepfacdlaa
open Go.RowKit Go.Maps
attribute [local go_sem] max2_mx min2_mn max_two' min_two'

theorem FdAt.flp {X : Nat → Prop} {w : World} {p : Nat} {F : Fd} (h : FdAt X w p F) (fl' : Nat → Fl) (hne : ∀ m, F.has m → fl' m = F.fl m) : FdAt X w p { F with fl := fl' } :=
  ⟨h.xlt, h.xp, h.blk, fun m hm => by
    have h1 := h.files m hm
    show _ ∧ w.heap[m]? = some (.cells #[.string (fl' m).b, .int .i64 (fl' m).sy] _ _)
    rw [hne m hm]; exact h1⟩
def updF (fl : Nat → Fl) (n : Nat) (x : Fl) (m : Nat) : Fl := if m = n then x else fl m
def createF (F : Fd) (s : ByteArray) (n : Nat) : Fd := hapF { F with fl := updF F.fl n ⟨⟨#[]⟩, 0⟩ } (.cre s n)
def createE (F : Fd) (s : ByteArray) : Int := if rdyE F.on [s] ≠ 0 then rdyE F.on [s] else if (look F.now s).isSome = true then 13 else if 64 ≤ F.now.length then 15 else stepE F
def okC (F : Fd) (s : ByteArray) : Prop := rdyE F.on [s] = 0 ∧ look F.now s = none ∧ F.now.length < 64
def CreatePost (X : Nat → Prop) (w : World) (p : Nat) (F : Fd) (s : ByteArray) (e : Ending) (w' : World) : Prop :=
  e = .returned (.int .i64 (createE F s)) ∧ ((okC F s ∧ ∃ n, w.heap.size ≤ n ∧ FdAt (Aft X w w') w' p (createF F s n)) ∨ (¬ okC F s ∧ FdAt (Aft X w w') w' p F)) ∧ Bt X w w'
theorem FdAt.aft {X : Nat → Prop} {w w' : World} {p : Nat} {F : Fd} (h : FdAt X w p F) (hg : Gr w w') : FdAt (Aft X w w') w' p F := (h.gr hg).wid (fun _ hk => .inl hk) (Aft.lt h.xlt hg.size)
theorem rdy_zero {on : Bool} {l : List ByteArray} (h : rdyE on l = 0) : on = true ∧ ∀ s ∈ l, NameOk s := by
  unfold rdyE at h
  cases on
  · simp at h
  · refine ⟨rfl, fun s hs => ?_⟩
    by_cases hb : bad l = true
    · simp [hb] at h
    · unfold bad at hb
      rw [Bool.not_eq_true, List.any_eq_false] at hb
      have := hb s hs
      simpa using this
theorem rd_one' {w : World} {A : Nat} (hA : w.heap.size = A) (s : ByteArray) : rdRow (w.alloc (.cells #[.string s] 9)) 1 (.slice (some ⟨A, 0, none⟩) 1 1) [s].length (encT [s]) := by subst hA; exact rd_one w s
theorem rd_two' {w : World} {A : Nat} (hA : w.heap.size = A) (s t : ByteArray) : rdRow (w.alloc (.cells #[.string s, .string t] 9)) 1 (.slice (some ⟨A, 0, none⟩) 2 2) [s, t].length (encT [s, t]) := by subst hA; exact rd_two w s t
theorem Aft.tr {X : Nat → Prop} {w w1 w2 : World} (h1 : w.heap.size ≤ w1.heap.size) (h2 : w1.heap.size ≤ w2.heap.size) {k : Nat} (hk : Aft (Aft X w w1) w1 w2 k) : Aft X w w2 k := by
  rcases hk with (hk | hk) | hk
  · exact .inl hk
  · exact .inr ⟨hk.1, Nat.lt_of_lt_of_le hk.2 h2⟩
  · exact .inr ⟨Nat.le_trans h1 hk.1, hk.2⟩
theorem Bt.tail {X Y : Nat → Prop} {w a b : World} (h : Bt X w a) (h2 : Bt Y a b) (hy : ∀ k, Y k → X k ∨ w.heap.size ≤ k) : Bt X w b :=
  ⟨h2.os.trans h.os, h2.tape.trans h.tape, h2.output.trans h.output, Nat.le_trans h.size h2.size, fun k hk hx => (h2.block k (Nat.lt_of_lt_of_le hk h.size) (fun z => (hy k z).elim hx (fun z => by omega))).trans (h.block k hk hx)⟩
theorem Aft.or {X : Nat → Prop} {w w' : World} {k : Nat} (h : Aft X w w' k) : X k ∨ w.heap.size ≤ k := h.imp id (fun z => z.1)
/-- Behind a call that began with new blocks of its own. -/
theorem FdAt.tail {X : Nat → Prop} {w w1 w2 : World} {p : Nat} {F : Fd} (hg : Gr w w1) (h : FdAt (Aft (Aft X w w1) w1 w2) w2 p F) (hb : Bt (Aft X w w1) w1 w2) : FdAt (Aft X w w2) w2 p F ∧ Bt X w w2 :=
  ⟨h.wid (fun _ hk => Aft.tr hg.size hb.size hk) (fun k hk => h.xlt k (hk.elim (fun z => .inl (.inl z)) (fun z => by
    by_cases e : k < w1.heap.size
    · exact .inl (.inr ⟨z.1, e⟩)
    · exact .inr ⟨by omega, z.2⟩))), (Bt.of hg).tail hb (fun _ hk => hk.or)⟩
set_option maxRecDepth 100000 in
set_option maxHeartbeats 4000000 in
theorem create_calls (X : Nat → Prop) (w : World) (p : Nat) (F : Fd) (h : FdAt X w p F) (hup : F.on = true → F.up = true) (hs : I64 F.steps) (hsl : F.since.length ≤ 1000) (s : ByteArray) (hm : s.size ≤ maxLen) :
    Calls Try.prog 12 #[.pointer (some ⟨p, 0, none⟩), .string s] w (CreatePost X w p F s) := by
  obtain ⟨nb, fb, sv, h1, h2, _⟩ := h.blk
  obtain ⟨c0, _, _, _, c4, _, _⟩ := fd_cells h1
  have Hrd := Lib.hid (fun W (hg : Gr w W) v (hv : rdRow W 1 v [s].length (encT [s])) => ready_calls p F.on v [s] W (keepc hg c4) hv (by simp) (by simpa using hm))
  have Hlk := Lib.hid (fun W (hg : Gr w W) => (h2.gr hg).look2 hm)
  have Hln := Lib.hid (fun W (hg : Gr w W) => (h2.gr hg).len)
  have C0 := Lib.hid (fun W (hg : Gr w W) => keepc hg c0)
  have HE := Lib.hid (show createE F s = if rdyE F.on [s] ≠ 0 then rdyE F.on [s] else if (look F.now s).isSome = true then 13 else if 64 ≤ F.now.length then 15 else stepE F from rfl)
  have HO := Lib.hid (show okC F s ↔ rdyE F.on [s] = 0 ∧ look F.now s = none ∧ F.now.length < 64 from Iff.rfl)
  have HF := Lib.hid h
  have hn20 : rdyE F.on [s] = 0 → F.up = true ∧ s.size ≤ 20 := fun h0 => ⟨hup (rdy_zero h0).1, ((rdy_zero h0).2 s (List.mem_singleton.2 rfl)).2.1⟩
  have HN := Lib.hid hn20
  unfold CreatePost
  generalize createE F s = ce at *
  generalize okC F s = oc at *
  obtain ⟨r, hr⟩ : ∃ r, rdyE F.on [s] = r := ⟨_, rfl⟩
  rw [hr] at Hrd HE HO HN
  clear h h1 h2 c0 c4 hr hup hn20
  by_cases h0 : r = 0
  · subst h0
    have HE2 := Lib.hid (show ce = if (look F.now s).isSome = true then 13 else if 64 ≤ F.now.length then 15 else stepE F by rw [HE.out, if_neg (fun z => z rfl)])
    clear HE
    go_enter Try.func12, Try.ntmps12
    go_wp2_with fail
    obtain ⟨W1, e1, g1, b1, s1⟩ := al_out w (.cells #[.string s] 9)
    rw [e1]
    obtain ⟨A3, eA⟩ : ∃ A, w.heap.size = A := ⟨_, rfl⟩
    rw [eA] at b1 s1 ⊢
    have G1 := Lib.hid g1; have B1 := Lib.hid (show box W1 A3 (.string s) 9 from b1); have EA := Lib.hid eA; have S1 := Lib.hid s1
    have cb := (show box W1 A3 (.string s) 9 from b1).cell
    clear g1 b1 s1 e1 eA
    go_upto_region 4 with (go_at_call 40; with_reducible refine (Hrd.out _ (Gr.al G1.out _) _ (rd_one' S1.out s)).mono ?_; rintro e w' ⟨rfl, rfl⟩)
    have g2 : Gr W1 (W1.alloc (.cells #[.string s] 9)) := Gr.al Gr.rfl' _
    generalize W1.alloc (.cells #[.string s] 9) = W2 at *
    have G2 := Lib.hid g2
    clear g2 cb
    obtain ⟨lk, hl⟩ : ∃ lk, look F.now s = lk := ⟨_, rfl⟩
    rw [hl] at Hlk HE2 HO
    clear hl
    cases lk with
    | some n =>
      have e1 : ce = 13 := HE2.out
      have hno : ¬ oc := fun z => by have := (HO.out.1 z).2.1; cases this
      subst e1
      have HNo := Lib.hid hno
      clear hno
      refine region_start (S := fun w' => Gr W2 w') (by kernel_rfl) (by exact Gr.dr Gr.rfl') (fun wz hz0 hHeld => ?_)
      simp only [List.size_toArray, List.length_cons, List.length_nil, Nat.reduceAdd]
      refine wpAnyH_take (i := 0) (oi := ?_) (v := ?_) ?_ (by kernel_rfl) (by kernel_rfl) (by kernel_rfl) ?_ ?_ (by assumption) ?_; rotate_left 2; (focus (simp only [List.getElem?_toArray, List.getElem?_cons_zero]; rfl)); (focus (exact fun _ _ _ h => h)); first | (focus (refine Or.inl ⟨by rfl, ?_⟩; intro w hSw; (try dsimp only at hSw); (try dsimp only [Array.getD]); go_simp; (try with_reducible rfl))) | (focus (refine Or.inr ⟨by rfl, ?_⟩; rfl)) | fail "op 0"
      try simp only [Act.put, List.setIfInBounds_toArray, List.set_cons_zero, List.set_cons_succ]
      refine wpAnyH_take (i := 1) (oi := ?_) (v := ?_) ?_ (by kernel_rfl) (by kernel_rfl) (by kernel_rfl) ?_ ?_ (by assumption) ?_; rotate_left 2; (focus (simp only [List.getElem?_toArray, List.getElem?_cons_succ, List.getElem?_cons_zero]; rfl)); (focus (exact fun _ _ _ h => h)); first | (focus (refine Or.inl ⟨by rfl, ?_⟩; intro w hSw; (try dsimp only at hSw); (try dsimp only [Array.getD]); go_simp; (try with_reducible rfl))) | (focus (refine Or.inr ⟨by rfl, ?_⟩; rfl)) | fail "op 1"
      try simp only [Act.put, List.setIfInBounds_toArray, List.set_cons_zero, List.set_cons_succ]
      refine wpAnyH_take (i := 2) (oi := ?_) (v := ?_) ?_ (by kernel_rfl) (by kernel_rfl) (by kernel_rfl) ?_ ?_ (by assumption) ?_; rotate_left 2; (focus (simp only [List.getElem?_toArray, List.getElem?_cons_succ, List.getElem?_cons_zero]; rfl)); (focus (exact fun _ _ _ h => h)); first | (focus (refine Or.inl ⟨by rfl, ?_⟩; intro w hSw; (try dsimp only at hSw); (try dsimp only [Array.getD]); go_simp; (try with_reducible rfl))) | (focus (refine Or.inr ⟨by rfl, ?_⟩; rfl)) | fail "op 2"
      try simp only [Act.put, List.setIfInBounds_toArray, List.set_cons_zero, List.set_cons_succ]
      refine wpAnyH_take (i := 3) (oi := ?_) (v := ?_) ?_ (by kernel_rfl) (by kernel_rfl) (by kernel_rfl) ?_ ?_ (by assumption) ?_; rotate_left 2; (focus (simp only [List.getElem?_toArray, List.getElem?_cons_succ, List.getElem?_cons_zero]; rfl)); (focus (exact fun _ _ _ h => h)); first | (focus (refine Or.inl ⟨by rfl, ?_⟩; intro w hSw; (try dsimp only at hSw); have c0 := C0.out w ((G1.out.tr G2.out).tr hSw); (try dsimp only [Array.getD]); go_simp; (try with_reducible rfl))) | (focus (refine Or.inr ⟨by rfl, ?_⟩; rfl)) | fail "op 3"
      try simp only [Act.put, List.setIfInBounds_toArray, List.set_cons_zero, List.set_cons_succ]
      refine wpAnyH_take (i := 4) (oi := ?_) (v := ?_) ?_ (by kernel_rfl) (by kernel_rfl) (by kernel_rfl) ?_ ?_ (by assumption) ?_; rotate_left 2; (focus (simp only [List.getElem?_toArray, List.getElem?_cons_succ, List.getElem?_cons_zero]; rfl)); (focus (exact fun _ _ _ h => h)); first | (focus (refine Or.inl ⟨by rfl, ?_⟩; intro w hSw; (try dsimp only at hSw); have cb := (B1.out.bt (Bt.of (X := fun _ => False) (G2.out.tr hSw)) (fun z => z)).cell; (try dsimp only [Array.getD]); go_simp; (try with_reducible rfl))) | (focus (refine Or.inr ⟨by rfl, ?_⟩; rfl)) | fail "op 4"
      try simp only [Act.put, List.setIfInBounds_toArray, List.set_cons_zero, List.set_cons_succ]
      refine wpAnyH_take (i := 5) (oi := ?_) (v := ?_) ?_ (by kernel_rfl) (by kernel_rfl) (by kernel_rfl) ?_ ?_ (by assumption) ?_; rotate_left 2; (focus (simp only [List.getElem?_toArray, List.getElem?_cons_succ, List.getElem?_cons_zero]; rfl)); (focus (exact fun _ _ _ h => h)); first | (focus (refine Or.inl ⟨by rfl, ?_⟩; intro w hSw; (try dsimp only at hSw); have l1 := Hlk.out w ((G1.out.tr G2.out).tr hSw); (try dsimp only [Array.getD]); go_simp; (try with_reducible rfl))) | (focus (refine Or.inr ⟨by rfl, ?_⟩; rfl)) | fail "op 5"
      try simp only [Act.put, List.setIfInBounds_toArray, List.set_cons_zero, List.set_cons_succ]
      refine wpAnyH_take (i := 6) (oi := ?_) (v := ?_) ?_ (by kernel_rfl) (by kernel_rfl) (by kernel_rfl) ?_ ?_ (by assumption) ?_; rotate_left 2; (focus (simp only [List.getElem?_toArray, List.getElem?_cons_succ, List.getElem?_cons_zero]; rfl)); (focus (exact fun _ _ _ h => h)); first | (focus (refine Or.inl ⟨by rfl, ?_⟩; intro w hSw; (try dsimp only at hSw); (try dsimp only [Array.getD]); go_simp; (try with_reducible rfl))) | (focus (refine Or.inr ⟨by rfl, ?_⟩; rfl)) | fail "op 6"
      try simp only [Act.put, List.setIfInBounds_toArray, List.set_cons_zero, List.set_cons_succ]
      refine wpAnyH_take (i := 7) (oi := ?_) (v := ?_) ?_ (by kernel_rfl) (by kernel_rfl) (by kernel_rfl) ?_ ?_ (by assumption) ?_; rotate_left 2; (focus (simp only [List.getElem?_toArray, List.getElem?_cons_succ, List.getElem?_cons_zero]; rfl)); (focus (exact fun _ _ _ h => h)); first | (focus (refine Or.inl ⟨by rfl, ?_⟩; intro w hSw; (try dsimp only at hSw); (try dsimp only [Array.getD]); go_simp; (try with_reducible rfl))) | (focus (refine Or.inr ⟨by rfl, ?_⟩; rfl)) | fail "op 7"
      try simp only [Act.put, List.setIfInBounds_toArray, List.set_cons_zero, List.set_cons_succ]
      refine wpAnyH_take (i := 8) (oi := ?_) (v := ?_) ?_ (by kernel_rfl) (by kernel_rfl) (by kernel_rfl) ?_ ?_ (by assumption) ?_; rotate_left 2; (focus (simp only [List.getElem?_toArray, List.getElem?_cons_succ, List.getElem?_cons_zero]; rfl)); (focus (exact fun _ _ _ h => h)); first | (focus (refine Or.inl ⟨by rfl, ?_⟩; intro w hSw; (try dsimp only at hSw); (try dsimp only [Array.getD]); go_simp; (try with_reducible rfl))) | (focus (refine Or.inr ⟨by rfl, ?_⟩; rfl)) | fail "op 8"
      try simp only [Act.put, List.setIfInBounds_toArray, List.set_cons_zero, List.set_cons_succ]
      refine wpAnyH_take (i := 9) (oi := ?_) (v := ?_) ?_ (by kernel_rfl) (by kernel_rfl) (by kernel_rfl) ?_ ?_ (by assumption) ?_; rotate_left 2; (focus (simp only [List.getElem?_toArray, List.getElem?_cons_succ, List.getElem?_cons_zero]; rfl)); (focus (exact fun _ _ _ h => h)); first | (focus (refine Or.inl ⟨by rfl, ?_⟩; intro w hSw; (try dsimp only at hSw); (try dsimp only [Array.getD]); go_simp; (try with_reducible rfl))) | (focus (refine Or.inr ⟨by rfl, ?_⟩; rfl)) | fail "op 9"
      try simp only [Act.put, List.setIfInBounds_toArray, List.set_cons_zero, List.set_cons_succ]
      refine wpAnyH_take (i := 10) (oi := ?_) (v := ?_) ?_ (by kernel_rfl) (by kernel_rfl) (by kernel_rfl) ?_ ?_ (by assumption) ?_; rotate_left 2; (focus (simp only [List.getElem?_toArray, List.getElem?_cons_succ, List.getElem?_cons_zero]; rfl)); (focus (exact fun _ _ _ h => h)); first | (focus (refine Or.inl ⟨by rfl, ?_⟩; intro w hSw; (try dsimp only at hSw); (try dsimp only [Array.getD]); go_simp; (try with_reducible rfl))) | (focus (refine Or.inr ⟨by rfl, ?_⟩; rfl)) | fail "op 10"
      try simp only [Act.put, List.setIfInBounds_toArray, List.set_cons_zero, List.set_cons_succ]
      refine wpAnyH_done (by kernel_rfl) ?_ _
      have G3 := Lib.hid ((G1.out.tr G2.out).tr hHeld)
      clear hHeld
      have c0 := C0.out _ G3.out
      go_wp2_with fail
      go_ret
      exact ⟨rfl, .inr ⟨HNo.out, HF.out.aft G3.out⟩, .of G3.out⟩
    | none =>
      by_cases h64 : 64 ≤ F.now.length
      · have e1 : ce = 15 := by rw [HE2.out, if_neg (by simp), if_pos h64]
        have hno : ¬ oc := fun z => by have := (HO.out.1 z).2.2; omega
        have g64 : (64 : Int) ≤ (F.now.length : Int) := by omega
        subst e1
        have HNo := Lib.hid hno
        clear hno h64
        refine region_start (S := fun w' => Gr W2 w') (by kernel_rfl) (by exact Gr.dr Gr.rfl') (fun wz hz0 hHeld => ?_)
        simp only [List.size_toArray, List.length_cons, List.length_nil, Nat.reduceAdd]
        refine wpAnyH_take (i := 0) (oi := ?_) (v := ?_) ?_ (by kernel_rfl) (by kernel_rfl) (by kernel_rfl) ?_ ?_ (by assumption) ?_; rotate_left 2; (focus (simp only [List.getElem?_toArray, List.getElem?_cons_zero]; rfl)); (focus (exact fun _ _ _ h => h)); first | (focus (refine Or.inl ⟨by rfl, ?_⟩; intro w hSw; (try dsimp only at hSw); (try dsimp only [Array.getD]); go_simp; (try with_reducible rfl))) | (focus (refine Or.inr ⟨by rfl, ?_⟩; rfl)) | fail "op 0"
        try simp only [Act.put, List.setIfInBounds_toArray, List.set_cons_zero, List.set_cons_succ]
        refine wpAnyH_take (i := 1) (oi := ?_) (v := ?_) ?_ (by kernel_rfl) (by kernel_rfl) (by kernel_rfl) ?_ ?_ (by assumption) ?_; rotate_left 2; (focus (simp only [List.getElem?_toArray, List.getElem?_cons_succ, List.getElem?_cons_zero]; rfl)); (focus (exact fun _ _ _ h => h)); first | (focus (refine Or.inl ⟨by rfl, ?_⟩; intro w hSw; (try dsimp only at hSw); (try dsimp only [Array.getD]); go_simp; (try with_reducible rfl))) | (focus (refine Or.inr ⟨by rfl, ?_⟩; rfl)) | fail "op 1"
        try simp only [Act.put, List.setIfInBounds_toArray, List.set_cons_zero, List.set_cons_succ]
        refine wpAnyH_take (i := 2) (oi := ?_) (v := ?_) ?_ (by kernel_rfl) (by kernel_rfl) (by kernel_rfl) ?_ ?_ (by assumption) ?_; rotate_left 2; (focus (simp only [List.getElem?_toArray, List.getElem?_cons_succ, List.getElem?_cons_zero]; rfl)); (focus (exact fun _ _ _ h => h)); first | (focus (refine Or.inl ⟨by rfl, ?_⟩; intro w hSw; (try dsimp only at hSw); (try dsimp only [Array.getD]); go_simp; (try with_reducible rfl))) | (focus (refine Or.inr ⟨by rfl, ?_⟩; rfl)) | fail "op 2"
        try simp only [Act.put, List.setIfInBounds_toArray, List.set_cons_zero, List.set_cons_succ]
        refine wpAnyH_take (i := 3) (oi := ?_) (v := ?_) ?_ (by kernel_rfl) (by kernel_rfl) (by kernel_rfl) ?_ ?_ (by assumption) ?_; rotate_left 2; (focus (simp only [List.getElem?_toArray, List.getElem?_cons_succ, List.getElem?_cons_zero]; rfl)); (focus (exact fun _ _ _ h => h)); first | (focus (refine Or.inl ⟨by rfl, ?_⟩; intro w hSw; (try dsimp only at hSw); have c0 := C0.out w ((G1.out.tr G2.out).tr hSw); (try dsimp only [Array.getD]); go_simp; (try with_reducible rfl))) | (focus (refine Or.inr ⟨by rfl, ?_⟩; rfl)) | fail "op 3"
        try simp only [Act.put, List.setIfInBounds_toArray, List.set_cons_zero, List.set_cons_succ]
        refine wpAnyH_take (i := 4) (oi := ?_) (v := ?_) ?_ (by kernel_rfl) (by kernel_rfl) (by kernel_rfl) ?_ ?_ (by assumption) ?_; rotate_left 2; (focus (simp only [List.getElem?_toArray, List.getElem?_cons_succ, List.getElem?_cons_zero]; rfl)); (focus (exact fun _ _ _ h => h)); first | (focus (refine Or.inl ⟨by rfl, ?_⟩; intro w hSw; (try dsimp only at hSw); have cb := (B1.out.bt (Bt.of (X := fun _ => False) (G2.out.tr hSw)) (fun z => z)).cell; (try dsimp only [Array.getD]); go_simp; (try with_reducible rfl))) | (focus (refine Or.inr ⟨by rfl, ?_⟩; rfl)) | fail "op 4"
        try simp only [Act.put, List.setIfInBounds_toArray, List.set_cons_zero, List.set_cons_succ]
        refine wpAnyH_take (i := 5) (oi := ?_) (v := ?_) ?_ (by kernel_rfl) (by kernel_rfl) (by kernel_rfl) ?_ ?_ (by assumption) ?_; rotate_left 2; (focus (simp only [List.getElem?_toArray, List.getElem?_cons_succ, List.getElem?_cons_zero]; rfl)); (focus (exact fun _ _ _ h => h)); first | (focus (refine Or.inl ⟨by rfl, ?_⟩; intro w hSw; (try dsimp only at hSw); have l1 := Hlk.out w ((G1.out.tr G2.out).tr hSw); (try dsimp only [Array.getD]); go_simp; (try with_reducible rfl))) | (focus (refine Or.inr ⟨by rfl, ?_⟩; rfl)) | fail "op 5"
        try simp only [Act.put, List.setIfInBounds_toArray, List.set_cons_zero, List.set_cons_succ]
        refine wpAnyH_take (i := 6) (oi := ?_) (v := ?_) ?_ (by kernel_rfl) (by kernel_rfl) (by kernel_rfl) ?_ ?_ (by assumption) ?_; rotate_left 2; (focus (simp only [List.getElem?_toArray, List.getElem?_cons_succ, List.getElem?_cons_zero]; rfl)); (focus (exact fun _ _ _ h => h)); first | (focus (refine Or.inl ⟨by rfl, ?_⟩; intro w hSw; (try dsimp only at hSw); (try dsimp only [Array.getD]); go_simp; (try with_reducible rfl))) | (focus (refine Or.inr ⟨by rfl, ?_⟩; rfl)) | fail "op 6"
        try simp only [Act.put, List.setIfInBounds_toArray, List.set_cons_zero, List.set_cons_succ]
        refine wpAnyH_take (i := 7) (oi := ?_) (v := ?_) ?_ (by kernel_rfl) (by kernel_rfl) (by kernel_rfl) ?_ ?_ (by assumption) ?_; rotate_left 2; (focus (simp only [List.getElem?_toArray, List.getElem?_cons_succ, List.getElem?_cons_zero]; rfl)); (focus (exact fun _ _ _ h => h)); first | (focus (refine Or.inl ⟨by rfl, ?_⟩; intro w hSw; (try dsimp only at hSw); (try dsimp only [Array.getD]); go_simp; (try with_reducible rfl))) | (focus (refine Or.inr ⟨by rfl, ?_⟩; rfl)) | fail "op 7"
        try simp only [Act.put, List.setIfInBounds_toArray, List.set_cons_zero, List.set_cons_succ]
        refine wpAnyH_take (i := 8) (oi := ?_) (v := ?_) ?_ (by kernel_rfl) (by kernel_rfl) (by kernel_rfl) ?_ ?_ (by assumption) ?_; rotate_left 2; (focus (simp only [List.getElem?_toArray, List.getElem?_cons_succ, List.getElem?_cons_zero]; rfl)); (focus (exact fun _ _ _ h => h)); first | (focus (refine Or.inl ⟨by rfl, ?_⟩; intro w hSw; (try dsimp only at hSw); (try dsimp only [Array.getD]); go_simp; (try with_reducible rfl))) | (focus (refine Or.inr ⟨by rfl, ?_⟩; rfl)) | fail "op 8"
        try simp only [Act.put, List.setIfInBounds_toArray, List.set_cons_zero, List.set_cons_succ]
        refine wpAnyH_take (i := 9) (oi := ?_) (v := ?_) ?_ (by kernel_rfl) (by kernel_rfl) (by kernel_rfl) ?_ ?_ (by assumption) ?_; rotate_left 2; (focus (simp only [List.getElem?_toArray, List.getElem?_cons_succ, List.getElem?_cons_zero]; rfl)); (focus (exact fun _ _ _ h => h)); first | (focus (refine Or.inl ⟨by rfl, ?_⟩; intro w hSw; (try dsimp only at hSw); (try dsimp only [Array.getD]); go_simp; (try with_reducible rfl))) | (focus (refine Or.inr ⟨by rfl, ?_⟩; rfl)) | fail "op 9"
        try simp only [Act.put, List.setIfInBounds_toArray, List.set_cons_zero, List.set_cons_succ]
        refine wpAnyH_take (i := 10) (oi := ?_) (v := ?_) ?_ (by kernel_rfl) (by kernel_rfl) (by kernel_rfl) ?_ ?_ (by assumption) ?_; rotate_left 2; (focus (simp only [List.getElem?_toArray, List.getElem?_cons_succ, List.getElem?_cons_zero]; rfl)); (focus (exact fun _ _ _ h => h)); first | (focus (refine Or.inl ⟨by rfl, ?_⟩; intro w hSw; (try dsimp only at hSw); (try dsimp only [Array.getD]); go_simp; (try with_reducible rfl))) | (focus (refine Or.inr ⟨by rfl, ?_⟩; rfl)) | fail "op 10"
        try simp only [Act.put, List.setIfInBounds_toArray, List.set_cons_zero, List.set_cons_succ]
        refine wpAnyH_done (by kernel_rfl) ?_ _
        have G3 := Lib.hid ((G1.out.tr G2.out).tr hHeld)
        clear hHeld
        have c0 := C0.out _ G3.out
        go_wp2_with (at_len; refine wpList_len_map _ rfl _ 61 rfl nb rfl F.now.length (Hln.out _ G3.out) ?_)
        go_ret
        exact ⟨rfl, .inr ⟨HNo.out, HF.out.aft G3.out⟩, .of G3.out⟩
      · have e1 : ce = stepE F := by rw [HE2.out, if_neg (by simp), if_neg h64]
        have hyes : oc := HO.out.2 ⟨by first | rfl | trivial, by first | rfl | trivial, by omega⟩
        have g64 : ¬ (64 : Int) ≤ (F.now.length : Int) := by omega
        subst e1
        have HYes := Lib.hid hyes; have H64 := Lib.hid h64
        clear hyes h64
        refine region_start (S := fun w' => Gr W2 w') (by kernel_rfl) (by exact Gr.dr Gr.rfl') (fun wz hz0 hHeld => ?_)
        simp only [List.size_toArray, List.length_cons, List.length_nil, Nat.reduceAdd]
        refine wpAnyH_take (i := 0) (oi := ?_) (v := ?_) ?_ (by kernel_rfl) (by kernel_rfl) (by kernel_rfl) ?_ ?_ (by assumption) ?_; rotate_left 2; (focus (simp only [List.getElem?_toArray, List.getElem?_cons_zero]; rfl)); (focus (exact fun _ _ _ h => h)); first | (focus (refine Or.inl ⟨by rfl, ?_⟩; intro w hSw; (try dsimp only at hSw); (try dsimp only [Array.getD]); go_simp; (try with_reducible rfl))) | (focus (refine Or.inr ⟨by rfl, ?_⟩; rfl)) | fail "op 0"
        try simp only [Act.put, List.setIfInBounds_toArray, List.set_cons_zero, List.set_cons_succ]
        refine wpAnyH_take (i := 1) (oi := ?_) (v := ?_) ?_ (by kernel_rfl) (by kernel_rfl) (by kernel_rfl) ?_ ?_ (by assumption) ?_; rotate_left 2; (focus (simp only [List.getElem?_toArray, List.getElem?_cons_succ, List.getElem?_cons_zero]; rfl)); (focus (exact fun _ _ _ h => h)); first | (focus (refine Or.inl ⟨by rfl, ?_⟩; intro w hSw; (try dsimp only at hSw); (try dsimp only [Array.getD]); go_simp; (try with_reducible rfl))) | (focus (refine Or.inr ⟨by rfl, ?_⟩; rfl)) | fail "op 1"
        try simp only [Act.put, List.setIfInBounds_toArray, List.set_cons_zero, List.set_cons_succ]
        refine wpAnyH_take (i := 2) (oi := ?_) (v := ?_) ?_ (by kernel_rfl) (by kernel_rfl) (by kernel_rfl) ?_ ?_ (by assumption) ?_; rotate_left 2; (focus (simp only [List.getElem?_toArray, List.getElem?_cons_succ, List.getElem?_cons_zero]; rfl)); (focus (exact fun _ _ _ h => h)); first | (focus (refine Or.inl ⟨by rfl, ?_⟩; intro w hSw; (try dsimp only at hSw); (try dsimp only [Array.getD]); go_simp; (try with_reducible rfl))) | (focus (refine Or.inr ⟨by rfl, ?_⟩; rfl)) | fail "op 2"
        try simp only [Act.put, List.setIfInBounds_toArray, List.set_cons_zero, List.set_cons_succ]
        refine wpAnyH_take (i := 3) (oi := ?_) (v := ?_) ?_ (by kernel_rfl) (by kernel_rfl) (by kernel_rfl) ?_ ?_ (by assumption) ?_; rotate_left 2; (focus (simp only [List.getElem?_toArray, List.getElem?_cons_succ, List.getElem?_cons_zero]; rfl)); (focus (exact fun _ _ _ h => h)); first | (focus (refine Or.inl ⟨by rfl, ?_⟩; intro w hSw; (try dsimp only at hSw); have c0 := C0.out w ((G1.out.tr G2.out).tr hSw); (try dsimp only [Array.getD]); go_simp; (try with_reducible rfl))) | (focus (refine Or.inr ⟨by rfl, ?_⟩; rfl)) | fail "op 3"
        try simp only [Act.put, List.setIfInBounds_toArray, List.set_cons_zero, List.set_cons_succ]
        refine wpAnyH_take (i := 4) (oi := ?_) (v := ?_) ?_ (by kernel_rfl) (by kernel_rfl) (by kernel_rfl) ?_ ?_ (by assumption) ?_; rotate_left 2; (focus (simp only [List.getElem?_toArray, List.getElem?_cons_succ, List.getElem?_cons_zero]; rfl)); (focus (exact fun _ _ _ h => h)); first | (focus (refine Or.inl ⟨by rfl, ?_⟩; intro w hSw; (try dsimp only at hSw); have cb := (B1.out.bt (Bt.of (X := fun _ => False) (G2.out.tr hSw)) (fun z => z)).cell; (try dsimp only [Array.getD]); go_simp; (try with_reducible rfl))) | (focus (refine Or.inr ⟨by rfl, ?_⟩; rfl)) | fail "op 4"
        try simp only [Act.put, List.setIfInBounds_toArray, List.set_cons_zero, List.set_cons_succ]
        refine wpAnyH_take (i := 5) (oi := ?_) (v := ?_) ?_ (by kernel_rfl) (by kernel_rfl) (by kernel_rfl) ?_ ?_ (by assumption) ?_; rotate_left 2; (focus (simp only [List.getElem?_toArray, List.getElem?_cons_succ, List.getElem?_cons_zero]; rfl)); (focus (exact fun _ _ _ h => h)); first | (focus (refine Or.inl ⟨by rfl, ?_⟩; intro w hSw; (try dsimp only at hSw); have l1 := Hlk.out w ((G1.out.tr G2.out).tr hSw); (try dsimp only [Array.getD]); go_simp; (try with_reducible rfl))) | (focus (refine Or.inr ⟨by rfl, ?_⟩; rfl)) | fail "op 5"
        try simp only [Act.put, List.setIfInBounds_toArray, List.set_cons_zero, List.set_cons_succ]
        refine wpAnyH_take (i := 6) (oi := ?_) (v := ?_) ?_ (by kernel_rfl) (by kernel_rfl) (by kernel_rfl) ?_ ?_ (by assumption) ?_; rotate_left 2; (focus (simp only [List.getElem?_toArray, List.getElem?_cons_succ, List.getElem?_cons_zero]; rfl)); (focus (exact fun _ _ _ h => h)); first | (focus (refine Or.inl ⟨by rfl, ?_⟩; intro w hSw; (try dsimp only at hSw); (try dsimp only [Array.getD]); go_simp; (try with_reducible rfl))) | (focus (refine Or.inr ⟨by rfl, ?_⟩; rfl)) | fail "op 6"
        try simp only [Act.put, List.setIfInBounds_toArray, List.set_cons_zero, List.set_cons_succ]
        refine wpAnyH_take (i := 7) (oi := ?_) (v := ?_) ?_ (by kernel_rfl) (by kernel_rfl) (by kernel_rfl) ?_ ?_ (by assumption) ?_; rotate_left 2; (focus (simp only [List.getElem?_toArray, List.getElem?_cons_succ, List.getElem?_cons_zero]; rfl)); (focus (exact fun _ _ _ h => h)); first | (focus (refine Or.inl ⟨by rfl, ?_⟩; intro w hSw; (try dsimp only at hSw); (try dsimp only [Array.getD]); go_simp; (try with_reducible rfl))) | (focus (refine Or.inr ⟨by rfl, ?_⟩; rfl)) | fail "op 7"
        try simp only [Act.put, List.setIfInBounds_toArray, List.set_cons_zero, List.set_cons_succ]
        refine wpAnyH_take (i := 8) (oi := ?_) (v := ?_) ?_ (by kernel_rfl) (by kernel_rfl) (by kernel_rfl) ?_ ?_ (by assumption) ?_; rotate_left 2; (focus (simp only [List.getElem?_toArray, List.getElem?_cons_succ, List.getElem?_cons_zero]; rfl)); (focus (exact fun _ _ _ h => h)); first | (focus (refine Or.inl ⟨by rfl, ?_⟩; intro w hSw; (try dsimp only at hSw); (try dsimp only [Array.getD]); go_simp; (try with_reducible rfl))) | (focus (refine Or.inr ⟨by rfl, ?_⟩; rfl)) | fail "op 8"
        try simp only [Act.put, List.setIfInBounds_toArray, List.set_cons_zero, List.set_cons_succ]
        refine wpAnyH_take (i := 9) (oi := ?_) (v := ?_) ?_ (by kernel_rfl) (by kernel_rfl) (by kernel_rfl) ?_ ?_ (by assumption) ?_; rotate_left 2; (focus (simp only [List.getElem?_toArray, List.getElem?_cons_succ, List.getElem?_cons_zero]; rfl)); (focus (exact fun _ _ _ h => h)); first | (focus (refine Or.inl ⟨by rfl, ?_⟩; intro w hSw; (try dsimp only at hSw); (try dsimp only [Array.getD]); go_simp; (try with_reducible rfl))) | (focus (refine Or.inr ⟨by rfl, ?_⟩; rfl)) | fail "op 9"
        try simp only [Act.put, List.setIfInBounds_toArray, List.set_cons_zero, List.set_cons_succ]
        refine wpAnyH_take (i := 10) (oi := ?_) (v := ?_) ?_ (by kernel_rfl) (by kernel_rfl) (by kernel_rfl) ?_ ?_ (by assumption) ?_; rotate_left 2; (focus (simp only [List.getElem?_toArray, List.getElem?_cons_succ, List.getElem?_cons_zero]; rfl)); (focus (exact fun _ _ _ h => h)); first | (focus (refine Or.inl ⟨by rfl, ?_⟩; intro w hSw; (try dsimp only at hSw); (try dsimp only [Array.getD]); go_simp; (try with_reducible rfl))) | (focus (refine Or.inr ⟨by rfl, ?_⟩; rfl)) | fail "op 10"
        try simp only [Act.put, List.setIfInBounds_toArray, List.set_cons_zero, List.set_cons_succ]
        refine wpAnyH_done (by kernel_rfl) ?_ _
        have G3 := Lib.hid ((G1.out.tr G2.out).tr hHeld)
        clear hHeld
        have c0 := C0.out _ G3.out
        go_upto_region 10 with (at_len; refine wpList_len_map _ rfl _ 61 rfl nb rfl F.now.length (Hln.out _ G3.out) ?_)
        obtain ⟨W4, e4, g4, b4, s4⟩ := al_out wz (.cells #[.string ⟨#[]⟩, .int .i64 0] 70)
        rw [e4]
        obtain ⟨W5, e5, g5, b5, s5⟩ := al_out W4 (.cells #[.pointer (some ⟨wz.heap.size, 0, none⟩)] 67)
        rw [e5]
        rw [s4] at b5
        obtain ⟨n, en⟩ : ∃ n, wz.heap.size = n := ⟨_, rfl⟩
        rw [en] at b4 b5 s4 ⊢
        have hG5 : Gr w W5 := (G3.out.tr g4).tr g5
        have hn0 : w.heap.size ≤ n := by rw [← en]; exact G3.out.size
        have hlt5 : n + 1 < W5.heap.size := by rw [s5, s4]; omega
        have hA3 : A3 < n := by rw [← en]; exact Nat.lt_of_lt_of_le (blk_lt B1.out) (by have h1 := G3.out.size; have h2 := G2.out.size; have h3 : W2.heap.size ≤ wz.heap.size := hz0.size; exact Nat.le_trans h2 h3)
        have hb5 : box W5 A3 (.string s) 9 := B1.out.bt (Bt.of (X := fun _ => False) (((G2.out.tr hz0).tr g4).tr g5)) (fun z => z)
        have hF5 : FdAt (Aft X w W5) W5 p { F with fl := updF F.fl n ⟨⟨#[]⟩, 0⟩ } := (HF.out.aft hG5).flp _ (fun m hm => if_neg (by have := HF.out.xlt m (HF.out.files m hm).1; omega))
        have h20 := (HN.out (by first | rfl | trivial)).2
        have hv : ClAt (Aft X w W5) W5 (.func (.func 42) #[] #[adr (n + 1), adr A3]) (.cre s n) :=
          ⟨h20, n + 1, A3, rfl, .inr ⟨by omega, hlt5⟩, .inr ⟨by rw [EA.out]; exact Nat.le_refl _, by omega⟩, b5, hb5⟩
        have hap := happens_calls (Aft X w W5) W5 p { F with fl := updF F.fl n ⟨⟨#[]⟩, 0⟩ } hF5 (HN.out (by first | rfl | trivial)).1 hs (.cre s n) _ hv trivial (by show F.now.length ≤ 100; have := H64.out; omega) (by show F.since.length ≤ 1000000; omega) (fun s' n' e => by
          injection e with e1 e2
          subst e2
          refine ⟨.inr ⟨hn0, by omega⟩, ?_⟩
          show W5.heap[n]? = some (.cells #[.string (updF F.fl n ⟨⟨#[]⟩, 0⟩ n).b, .int .i64 (updF F.fl n ⟨⟨#[]⟩, 0⟩ n).sy] _ _)
          rw [show updF F.fl n ⟨⟨#[]⟩, 0⟩ n = ⟨⟨#[]⟩, 0⟩ from if_pos rfl]
          exact g5.blk b4)
        have Hap := Lib.hid hap; have HG5 := Lib.hid hG5; have HN0 := Lib.hid hn0
        clear hap hv hF5 hb5 hA3 hlt5 hn0 hG5 b4 b5 s4 s5 g4 g5 e4 e5 en h20
        go_wp2_with fail
        refine Hap.out.mono ?_
        rintro e w6 ⟨rfl, hf6, hb6⟩
        obtain ⟨t1, t2⟩ := FdAt.tail HG5.out hf6 hb6
        have T1 := Lib.hid t1; have T2 := Lib.hid t2
        clear hf6 hb6 t1 t2
        go_wp2_with fail
        go_ret
        exact ⟨rfl, .inl ⟨HYes.out, n, HN0.out, T1.out⟩, T2.out⟩
  · have e1 : ce = r := by rw [HE.out, if_pos h0]
    have hno : ¬ oc := fun z => h0 (HO.out.1 z).1
    subst e1
    have HNo := Lib.hid hno
    have hne : (ce != 0) = true := by simp [h0]
    have hne' : (ce == 0) = false := by simp [h0]
    clear hno HE HO
    go_enter Try.func12, Try.ntmps12
    go_wp2_with fail
    obtain ⟨W1, e1, g1, b1, s1⟩ := al_out w (.cells #[.string s] 9)
    rw [e1]
    obtain ⟨A3, eA⟩ : ∃ A, w.heap.size = A := ⟨_, rfl⟩
    rw [eA] at b1 s1 ⊢
    have G1 := Lib.hid g1; have S1 := Lib.hid s1
    have cb := (show box W1 A3 (.string s) 9 from b1).cell
    clear g1 b1 s1 e1 eA
    go_wp2_with (go_at_call 40; with_reducible refine (Hrd.out _ (Gr.al G1.out _) _ (rd_one' S1.out s)).mono ?_; rintro e w' ⟨rfl, rfl⟩)
    go_ret
    exact ⟨by first | rfl | trivial, .inr ⟨HNo.out, HF.out.aft (Gr.al G1.out _)⟩, .of (Gr.al G1.out _)⟩
end Go.Proofs.Ytdopmcepfacdlaa
