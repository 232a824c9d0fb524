/- The reference of quorum: the object as it lies; New, Answer. -/
import Derived.Test.YtpnpnjfflblkpaaQwB
import Derived.Test.YtpnpnjfflblkpaaSpC
namespace Go.Proofs.Ytpnpnjfflblkpaa
open Go.RowKit Go.Maps Go.Sort Go.Shelf

/-- A row that lies outside a block. -/
def rdO (r : Nat) (w : World) (k : Nat) (v : Value) (n : Nat) (xs : List Value) : Prop := rdRow w k v n xs ∧ ∀ a m c, v = .slice (some a) m c → 0 < n → a.block ≠ r
theorem rdO.bt {r : Nat} {w w' : World} {k n : Nat} {v : Value} {xs : List Value} (h : rdO r w k v n xs) {X : Nat → Prop} (hb : Bt X w w') (hX : ∀ b, X b → b = r) : rdO r w' k v n xs := by
  refine ⟨?_, h.2⟩
  obtain ⟨⟨h1, a, cap, rfl, hc, h2⟩, h3⟩ := h
  refine ⟨h1, a, cap, rfl, hc, fun hn => ?_⟩
  obtain ⟨b, o, rfl, h4⟩ := h2 hn
  exact ⟨b, o, rfl, fun j u hu => hb.cell (fun hx => h3 _ _ _ rfl hn (hX _ hx)) (h4 j u hu)⟩
theorem rdO.gr {r : Nat} {w w' : World} {k n : Nat} {v : Value} {xs : List Value} (h : rdO r w k v n xs) (hg : Gr w w') : rdO r w' k v n xs := ⟨h.1.gr hg, h.2⟩
theorem rdO_own {r : Nat} {w : World} {base e k n : Nat} {v : Value} {xs : List Value} (h : w.ownsRow base e k v n xs) (hr : r < base) : rdO r w k v n xs := by
  refine ⟨rdRow_of_own h, fun a m c ev h0 hk => ?_⟩
  rcases h.2 with ⟨_, h2⟩ | ⟨g, cap, cur, hv, hb, _⟩
  · omega
  · rw [ev] at hv
    injection hv with e1 e2 e3
    injection e1 with e1
    rw [e1] at hk
    simp only at hk
    omega
theorem rdO_new {w : World} {k n : Nat} {v : Value} {xs : List Value} (hk0 : 0 < k) (h : rdRow w k v n xs) : rdO w.heap.size w k v n xs := by
  refine ⟨h, fun a m c ev h0 hk => ?_⟩
  obtain ⟨h1, a', cap, e, hc, h2⟩ := h
  obtain ⟨b, o, rfl, h4⟩ := h2 h0
  rw [ev] at e
  injection e with e1 e2 e3
  injection e1 with e1
  have hx : ∃ u, xs[0]? = some u := by
    have : 0 < xs.length := by rw [h1]; exact Nat.mul_pos h0 hk0
    exact ⟨xs[0], List.getElem?_eq_getElem this⟩
  obtain ⟨u, hu⟩ := hx
  have := World.block_lt_of_cell? w _ (h4 0 u hu)
  rw [e1] at hk
  simp only at hk this
  omega
structure RqAt (w : World) (r : Nat) (nd : Int) (nv : Value) (N H : List Int) (rv : Nat → Value) (gl : Int → List Pt) : Prop where
  c0 : w.cell? ⟨r, 0, none⟩ = some (.int .i64 nd)
  c1 : w.cell? ⟨r, 1, none⟩ = some nv
  row : rdO r w 1 nv N.length (encI N)
  has : ∀ k : Nat, k < 16 → w.cell? ⟨r, 2 + k, none⟩ = some (.bool (decide ((k : Int) ∈ H))) ∧ w.frozen? ⟨r, 2 + k, none⟩ = false
  got : ∀ k : Nat, k < 16 → w.cell? ⟨r, 18 + k, none⟩ = some (rv k) ∧ w.frozen? ⟨r, 18 + k, none⟩ = false
  rows : ∀ k : Nat, k < 16 → rdO r w 6 (rv k) (gl k).length (encP (gl k))
  lo : ∀ n ∈ N, 0 ≤ n ∧ n < 16
section
variable {w w' : World} {r : Nat} {nd : Int} {nv : Value} {N H : List Int} {rv : Nat → Value} {gl : Int → List Pt}
theorem RqAt.gr (h : RqAt w r nd nv N H rv gl) (hg : Gr w w') : RqAt w' r nd nv N H rv gl :=
  ⟨keepc hg h.c0, keepc hg h.c1, h.row.gr hg, fun k hk => ⟨keepc hg (h.has k hk).1, keepf hg (h.has k hk).1 (h.has k hk).2⟩, fun k hk => ⟨keepc hg (h.got k hk).1, keepf hg (h.got k hk).1 (h.got k hk).2⟩, fun k hk => (h.rows k hk).gr hg, h.lo⟩
end
theorem rq_new (w1 : World) (d : Int) (nv : Value) (N : List Int) (base : Nat) (ho : w1.ownsRow base 3 1 nv N.length (encI N)) (hlo : ∀ n ∈ N, 0 ≤ n ∧ n < 16) :
    RqAt (w1.alloc (.cells #[.int .i64 d, nv, .bool false, .bool false, .bool false, .bool false, .bool false, .bool false, .bool false, .bool false, .bool false, .bool false, .bool false, .bool false, .bool false, .bool false, .bool false, .bool false, .slice none 0 0, .slice none 0 0, .slice none 0 0, .slice none 0 0, .slice none 0 0, .slice none 0 0, .slice none 0 0, .slice none 0 0, .slice none 0 0, .slice none 0 0, .slice none 0 0, .slice none 0 0, .slice none 0 0, .slice none 0 0, .slice none 0 0, .slice none 0 0] 61)) w1.heap.size d nv N [] (fun _ => .slice none 0 0) (fun _ => []) := by
  have hb := heap_alloc_new w1 (.cells #[.int .i64 d, nv, .bool false, .bool false, .bool false, .bool false, .bool false, .bool false, .bool false, .bool false, .bool false, .bool false, .bool false, .bool false, .bool false, .bool false, .bool false, .bool false, .slice none 0 0, .slice none 0 0, .slice none 0 0, .slice none 0 0, .slice none 0 0, .slice none 0 0, .slice none 0 0, .slice none 0 0, .slice none 0 0, .slice none 0 0, .slice none 0 0, .slice none 0 0, .slice none 0 0, .slice none 0 0, .slice none 0 0, .slice none 0 0] 61)
  have hr : rdO w1.heap.size w1 1 nv N.length (encI N) := rdO_new (by decide) (rdRow_of_own ho)
  refine ⟨(cell_of_row _ _ 0 _ _ _ hb).trans rfl, (cell_of_row _ _ 1 _ _ _ hb).trans rfl, hr.gr (Gr.al Gr.rfl' _), fun k hk => ⟨(cell_of_row _ _ _ _ _ _ hb).trans ?_, frozen_of_row _ _ _ _ _ hb⟩, fun k hk => ⟨(cell_of_row _ _ _ _ _ _ hb).trans ?_, frozen_of_row _ _ _ _ _ hb⟩, fun k _ => ⟨⟨rfl, none, 0, rfl, Nat.le_refl _, fun h => absurd h (by decide)⟩, fun a n c e h0 => absurd h0 (by decide)⟩, hlo⟩
  · have h16 : k = 0 ∨ k = 1 ∨ k = 2 ∨ k = 3 ∨ k = 4 ∨ k = 5 ∨ k = 6 ∨ k = 7 ∨ k = 8 ∨ k = 9 ∨ k = 10 ∨ k = 11 ∨ k = 12 ∨ k = 13 ∨ k = 14 ∨ k = 15 := by omega
    rcases h16 with rfl | rfl | rfl | rfl | rfl | rfl | rfl | rfl | rfl | rfl | rfl | rfl | rfl | rfl | rfl | rfl <;> rfl
  · have h16 : k = 0 ∨ k = 1 ∨ k = 2 ∨ k = 3 ∨ k = 4 ∨ k = 5 ∨ k = 6 ∨ k = 7 ∨ k = 8 ∨ k = 9 ∨ k = 10 ∨ k = 11 ∨ k = 12 ∨ k = 13 ∨ k = 14 ∨ k = 15 := by omega
    rcases h16 with rfl | rfl | rfl | rfl | rfl | rfl | rfl | rfl | rfl | rfl | rfl | rfl | rfl | rfl | rfl | rfl <;> rfl
set_option maxRecDepth 100000 in
set_option maxHeartbeats 4000000 in
theorem rnew_calls (need : Int) (v : Value) (ns : List Int) (w : World) (hv : rdRow w 1 v ns.length (encI ns)) (hk : ns.length ≤ 1000000) :
    Calls Try.prog 24 #[.int .i64 need, v] w fun e w' => ∃ r nv, e = .returned (.pointer (some ⟨r, 0, none⟩)) ∧ RqAt w' r (mx need 1) nv (nodesOf ns) [] (fun _ => .slice none 0 0) (fun _ => []) ∧ w.heap.size ≤ r ∧ Gr w w' := by
  have HN := Lib.hid (rnodes_calls v ns w hv hk)
  have hlo : ∀ n ∈ nodesOf ns, 0 ≤ n ∧ n < 16 := fun n h => by have := nodesOf_mem.1 h; omega
  have HLO := Lib.hid hlo
  clear hv hlo
  have hmx : (need < 1 ∧ mx need 1 = 1) ∨ (¬ need < 1 ∧ mx need 1 = need) := by unfold mx; by_cases h : need < 1 <;> simp [h] <;> omega
  rcases hmx with ⟨h1, e⟩ | ⟨h1, e⟩
  all_goals
    have HE := Lib.hid e
    clear e
    go_enter Try.func24, Try.ntmps24
    go_wp2_with fail
    refine HN.out.mono ?_
    rintro e w1 ⟨nv, rfl, ho, hg⟩
    obtain ⟨ua, uc, rfl⟩ := own_slice ho
    have HO := Lib.hid ho
    have HG := Lib.hid hg
    obtain ⟨N, eN⟩ : ∃ N, nodesOf ns = N := ⟨_, rfl⟩
    rw [eN] at HO HLO
    have EN := Lib.hid eN
    clear ho hg HN eN
    go_wp2_with fail
    have HQ := rq_new w1 (mx need 1) (.slice ua N.length uc) N _ HO.out HLO.out
    rw [HE.out] at HQ
    go_ret
    rw [EN.out, HE.out]
    exact ⟨_, _, rfl, HQ, HG.out.size, HG.out.al _⟩
/-- What Answer leaves. -/
def RansPost (w : World) (r : Nat) (nd : Int) (nv : Value) (N H : List Int) (rv : Nat → Value) (gl : Int → List Pt) (n : Int) (l : List Pt) (e : Ending) (w' : World) : Prop :=
  e = .returned (.bool (decide (ackB N H n))) ∧ Bt (fun k => k = r) w w' ∧
  if ackB N H n then ∃ rv', RqAt w' r nd nv N (H ++ [n]) rv' (fun k => if k = n then sortP l else gl k) else RqAt w' r nd nv N H rv gl
section
variable {w w' : World} {r : Nat} {nd : Int} {nv : Value} {N H : List Int} {rv : Nat → Value} {gl : Int → List Pt}
theorem bt_set (w : World) (r o : Nat) (v : Value) : Bt (fun k => k = r) w (w.setCell ⟨r, o, none⟩ v) := Bt.row (grown_set w r o v) rfl
theorem off_ne {r a b : Nat} (h : a ≠ b) : (⟨r, a, none⟩ : Addr) ≠ ⟨r, b, none⟩ := fun e => h (by injection e)
theorem RqAt.mark (h : RqAt w r nd nv N H rv gl) {m : Nat} (hm : m < 16) : RqAt (w.setCell ⟨r, 2 + m, none⟩ (.bool true)) r nd nv N (H ++ [(m : Int)]) rv gl := by
  have hb := bt_set w r (2 + m) (.bool true)
  have ht : ∀ {o : Nat} {v : Value}, o ≠ 2 + m → w.cell? ⟨r, o, none⟩ = some v → (w.setCell ⟨r, 2 + m, none⟩ (.bool true)).cell? ⟨r, o, none⟩ = some v := fun ho hc => by
    rw [World.cell?_setCell_other _ ⟨r, 2 + m, none⟩ ⟨r, _, none⟩ _ (off_ne (by omega))]; exact hc
  refine ⟨ht (by omega) h.c0, ht (by omega) h.c1, h.row.bt hb (fun _ e => e), fun k hk => ⟨?_, by rw [World.frozen?_setCell]; exact (h.has k hk).2⟩, fun k hk => ⟨ht (by omega) (h.got k hk).1, by rw [World.frozen?_setCell]; exact (h.got k hk).2⟩, fun k hk => (h.rows k hk).bt hb (fun _ e => e), h.lo⟩
  by_cases e : k = m
  · subst e
    rw [World.cell?_setCell_same _ _ _ (h.has k hk).1]; simp
  · rw [ht (by omega) (h.has k hk).1]
    have : ((k : Int) ∈ H ++ [(m : Int)]) ↔ (k : Int) ∈ H := by simp; omega
    rw [decide_eq_decide.2 this]
theorem RqAt.put (h : RqAt w r nd nv N H rv gl) {m : Nat} (hm : m < 16) {v : Value} {L : List Pt} (hv : rdO r w 6 v L.length (encP L)) :
    RqAt (w.setCell ⟨r, 18 + m, none⟩ v) r nd nv N H (fun k => if k = m then v else rv k) (fun k => if k = (m : Int) then L else gl k) := by
  have hb := bt_set w r (18 + m) v
  have ht : ∀ {o : Nat} {u : Value}, o ≠ 18 + m → w.cell? ⟨r, o, none⟩ = some u → (w.setCell ⟨r, 18 + m, none⟩ v).cell? ⟨r, o, none⟩ = some u := fun ho hc => by
    rw [World.cell?_setCell_other _ ⟨r, 18 + m, none⟩ ⟨r, _, none⟩ _ (off_ne (by omega))]; exact hc
  refine ⟨ht (by omega) h.c0, ht (by omega) h.c1, h.row.bt hb (fun _ e => e), fun k hk => ⟨ht (by omega) (h.has k hk).1, by rw [World.frozen?_setCell]; exact (h.has k hk).2⟩, fun k hk => ⟨?_, by rw [World.frozen?_setCell]; exact (h.got k hk).2⟩, fun k hk => ?_, h.lo⟩
  · by_cases e : k = m
    · subst e
      rw [World.cell?_setCell_same _ _ _ (h.got k hk).1]; simp
    · rw [ht (by omega) (h.got k hk).1]; simp [e]
  · by_cases e : k = m
    · subst e
      simp only [if_true]
      exact hv.bt hb (fun _ e => e)
    · have e' : ¬ (k : Int) = (m : Int) := by omega
      simp only [if_neg e, if_neg e']
      exact (h.rows k hk).bt hb (fun _ e => e)
end
set_option maxRecDepth 100000 in
set_option maxHeartbeats 4000000 in
theorem ranswer_calls (w : World) (r : Nat) (nd : Int) (nv : Value) (N H : List Int) (rv : Nat → Value) (gl : Int → List Pt) (h : RqAt w r nd nv N H rv gl) (hN : N.length ≤ 1000) (n : Int) (v : Value) (l : List Pt) (hv : rdO r w 6 v l.length (encP l)) (hl : l.length ≤ 100000) :
    Calls Try.prog 25 #[.pointer (some ⟨r, 0, none⟩), .int .i64 n, v] w (RansPost w r nd nv N H rv gl n l) := by
  have HC := Lib.hid (in_calls nv N n w h.row.1 (by omega))
  have c1 := h.c1
  by_cases h1 : n ∈ N
  · obtain ⟨m, rfl⟩ : ∃ m : Nat, n = m := ⟨n.toNat, by have := h.lo n h1; omega⟩
    have hm : m < 16 := by have := h.lo _ h1; omega
    rw [decide_eq_true h1] at HC
    obtain ⟨ch, fh⟩ := h.has m hm
    obtain ⟨cg, fg⟩ := h.got m hm
    by_cases h2 : (m : Int) ∈ H
    · have hb : ¬ ackB N H m := fun z => z.2 h2
      have HP := Lib.hid (show RansPost w r nd nv N H rv gl m l (.returned (.bool false)) w from ⟨by rw [decide_eq_false hb], Bt.rfl', by rw [if_neg hb]; exact h⟩)
      rw [decide_eq_true h2] at ch
      clear h hb h1 h2 hv cg fg
      go_enter Try.func25, Try.ntmps25
      go_wp2_with (go_at_call 52; refine HC.out.mono ?_; rintro e w1 ⟨rfl, rfl⟩)
      go_ret
      exact HP.out
    · have hb : ackB N H m := ⟨h1, h2⟩
      rw [decide_eq_false h2] at ch
      have HH := Lib.hid h
      have HV := Lib.hid hv
      have HB := Lib.hid hb
      clear h hb h1 h2 hv cg fg
      go_enter Try.func25, Try.ntmps25
      go_upto_region 5 with (go_at_call 52; refine HC.out.mono ?_; rintro e w1 ⟨rfl, rfl⟩)
      have HM := Lib.hid (HH.out.mark hm)
      have BM := Lib.hid (bt_set w r (2 + m) (.bool true))
      have HV1 := Lib.hid (HV.out.bt BM.out (fun _ e => e))
      generalize w.setCell ⟨r, 2 + m, none⟩ (.bool true) = w1 at *
      clear ch fh c1 HV HC
      refine region_start (S := fun w' => Bt (fun k => k = r) w1 w') (by kernel_rfl) (by exact .of (Gr.dr Gr.rfl')) (fun wz hz0 hHeld => ?_)
      simp only [List.size_toArray, List.length_cons, List.length_nil, Nat.reduceAdd]
      refine wpAnyH_take (i := 0) (oi := ?_) (v := ?_) ?_ (by kernel_rfl) (by kernel_rfl) (by kernel_rfl) ?_ ?_ (by assumption) ?_; rotate_left 2; (focus (simp only [List.getElem?_toArray, List.getElem?_cons_zero]; rfl)); (focus (exact fun _ _ _ h => h)); first | (focus (refine Or.inl ⟨by rfl, ?_⟩; intro w hSw; (try dsimp only at hSw); (try dsimp only [Array.getD]); go_simp; (try with_reducible rfl))) | (focus (refine Or.inr ⟨by rfl, ?_⟩; rfl)) | fail "op 0"
      try simp only [Act.put, List.setIfInBounds_toArray, List.set_cons_zero, List.set_cons_succ]
      refine wpAnyH_take (i := 1) (oi := ?_) (v := ?_) ?_ (by kernel_rfl) (by kernel_rfl) (by kernel_rfl) ?_ ?_ (by assumption) ?_; rotate_left 2; (focus (simp only [List.getElem?_toArray, List.getElem?_cons_succ, List.getElem?_cons_zero]; rfl)); (focus (exact fun _ _ _ h => h)); first | (focus (refine Or.inl ⟨by rfl, ?_⟩; intro w hSw; (try dsimp only at hSw); (try dsimp only [Array.getD]); go_simp; (try with_reducible rfl))) | (focus (refine Or.inr ⟨by rfl, ?_⟩; rfl)) | fail "op 1"
      try simp only [Act.put, List.setIfInBounds_toArray, List.set_cons_zero, List.set_cons_succ]
      refine wpAnyH_take (i := 2) (oi := ?_) (v := ?_) ?_ (by kernel_rfl) (by kernel_rfl) (by kernel_rfl) ?_ ?_ (by assumption) ?_; rotate_left 2; (focus (simp only [List.getElem?_toArray, List.getElem?_cons_succ, List.getElem?_cons_zero]; rfl)); (focus (exact fun _ _ _ h => h)); first | (focus (refine Or.inl ⟨by rfl, ?_⟩; intro w hSw; (try dsimp only at hSw); (try dsimp only [Array.getD]); go_simp; (try with_reducible rfl))) | (focus (refine Or.inr ⟨by rfl, ?_⟩; rfl)) | fail "op 2"
      try simp only [Act.put, List.setIfInBounds_toArray, List.set_cons_zero, List.set_cons_succ]
      refine wpAnyH_take (i := 4) (oi := ?_) (v := ?_) ?_ (by kernel_rfl) (by kernel_rfl) (by kernel_rfl) ?_ ?_ (by assumption) ?_; rotate_left 2; (focus (simp only [List.getElem?_toArray, List.getElem?_cons_succ, List.getElem?_cons_zero]; rfl)); (focus (exact fun _ _ _ h => h)); first | (focus (refine Or.inl ⟨by rfl, ?_⟩; intro w hSw; (try dsimp only at hSw); (try dsimp only [Array.getD]); go_simp; (try with_reducible rfl))) | (focus (refine Or.inr ⟨by rfl, ?_⟩; rfl)) | fail "op 4"
      try simp only [Act.put, List.setIfInBounds_toArray, List.set_cons_zero, List.set_cons_succ]
      refine wpAnyH_take (i := 5) (oi := ?_) (v := ?_) ?_ (by kernel_rfl) (by kernel_rfl) (by kernel_rfl) ?_ ?_ (by assumption) ?_; rotate_left 2; (focus (simp only [List.getElem?_toArray, List.getElem?_cons_succ, List.getElem?_cons_zero]; rfl)); (focus (exact fun _ _ _ h => h)); first | (focus (refine Or.inl ⟨by rfl, ?_⟩; intro w hSw; (try dsimp only at hSw); (try dsimp only [Array.getD]); go_simp; (try with_reducible rfl))) | (focus (refine Or.inr ⟨by rfl, ?_⟩; rfl)) | fail "op 5"
      try simp only [Act.put, List.setIfInBounds_toArray, List.set_cons_zero, List.set_cons_succ]
      refine wpAnyH_ready (rs := [3]) (by kernel_rfl) (by simp) ?_
      refine AllReadyH.cons (o := ?_) ?_ (fun K hK => ?_) AllReadyH.nil; rotate_left; (focus (simp only [List.getElem?_toArray, List.getElem?_cons_succ, List.getElem?_cons_zero]; rfl))
      go_simp
      go_at_call 19
      refine (rsort_calls v l _ (HV1.out.gr hz0).1 hl).mono ?_
      rintro e w6 ⟨v6, rfl, ho6, hg6⟩
      obtain ⟨ua, uc, rfl⟩ := own_slice ho6
      have G6 := Lib.hid (hz0.tr hg6)
      have O6 := Lib.hid (rdO_own ho6 (r := r) (Nat.lt_of_lt_of_le (World.block_lt_of_cell? _ _ HM.out.c0) hz0.size))
      clear ho6 hg6
      refine hK.out _ _ (.of G6.out) (fun hHeld => ?_)
      clear hK K
      try simp only [Act.put, List.setIfInBounds_toArray, List.set_cons_zero, List.set_cons_succ]
      refine wpAnyH_take (i := 6) (oi := ?_) (v := ?_) ?_ (by kernel_rfl) (by kernel_rfl) (by kernel_rfl) ?_ ?_ (by assumption) ?_; rotate_left 2; (focus (simp only [List.getElem?_toArray, List.getElem?_cons_succ, List.getElem?_cons_zero]; rfl)); (focus (exact fun _ _ _ h => h)); first | (focus (refine Or.inl ⟨by rfl, ?_⟩; intro w hSw; (try dsimp only at hSw); have hmi : (m : Int) < 16 := Int.ofNat_lt.2 hm; (try dsimp only [Array.getD]); go_simp; (try with_reducible rfl))) | (focus (refine Or.inr ⟨by rfl, ?_⟩; rfl)) | fail "op 6"
      try simp only [Act.put, List.setIfInBounds_toArray, List.set_cons_zero, List.set_cons_succ]
      refine wpAnyH_ready (rs := [7]) (by kernel_rfl) (by simp) ?_
      refine AllReadyH.cons (o := ?_) ?_ (fun K hK => ?_) AllReadyH.nil; rotate_left; (focus (simp only [List.getElem?_toArray, List.getElem?_cons_succ, List.getElem?_cons_zero]; rfl))
      obtain ⟨cg, fg⟩ := (HM.out.gr G6.out).got m hm
      go_simp
      refine hK.out _ _ ((Bt.of G6.out).tr (bt_set _ r (18 + m) (.slice ua (sortP l).length uc))) (fun hHeld => ?_)
      clear hK K
      try simp only [Act.put, List.setIfInBounds_toArray, List.set_cons_zero, List.set_cons_succ]
      refine wpAnyH_done (by kernel_rfl) ?_ _
      have G := Lib.hid hHeld
      have HP := Lib.hid (show RansPost w r nd nv N H rv gl m l (.returned (.bool true)) (w6.setCell ⟨r, 18 + m, none⟩ (.slice ua (sortP l).length uc)) from by
        refine ⟨by rw [decide_eq_true HB.out], BM.out.tr G.out, ?_⟩
        rw [if_pos HB.out]
        exact ⟨_, (HM.out.gr G6.out).put hm O6.out⟩)
      clear hHeld hz0
      go_wp2_with fail
      go_ret
      exact HP.out
  · have hb : ¬ ackB N H n := fun z => h1 z.1
    have HP := Lib.hid (show RansPost w r nd nv N H rv gl n l (.returned (.bool false)) w from ⟨by rw [decide_eq_false hb], Bt.rfl', by rw [if_neg hb]; exact h⟩)
    rw [decide_eq_false h1] at HC
    clear h hb h1 hv
    go_enter Try.func25, Try.ntmps25
    go_wp2_with (go_at_call 52; refine HC.out.mono ?_; rintro e w1 ⟨rfl, rfl⟩)
    go_ret
    exact HP.out
end Go.Proofs.Ytpnpnjfflblkpaa
