/- The reference's log: Add. -/
import Derived.Test.YtnneebdcaefgoaaCbI
namespace Go.Proofs.Ytnneebdcaefgoaa
open Go.RowKit Go.Maps

section
theorem wp_lit_rec {o : Oper} {a : Act} {w : World} {K : Act → World → Prop} {Q : Exit → Act → World → Prop} (x : Operand) (ho : o.op = .buildSlice 24 1 #[(0, x)])
    (r : Rec) (d : Value) (hx : a.eval x = recV r d)
    (h : ∀ w1, w.alloc (.cells (recC r d) 33) = w1 → K (a.put o.dst (.slice (some ⟨w.heap.size, 0, none⟩) 1 1)) w1) : o.wp Try.prog a w K Q := by
  obtain ⟨i0, hi, hz0, hz1, hz2⟩ := info_parts infoRecs
  refine wp_buildSlice 24 33 1 #[(0, x)] ho (recC r d) i0 recZ Try.underlying24 hi hz0 (by rw [hz1]; decide) (by rw [hz1]; decide) ?_ (h _ rfl)
  rw [hz1]
  have e : (Array.map (fun x : Nat × Operand => match x with | (i, x) => (i, a.eval x)) #[(0, x)]).toList = [(0, recV r d)] := by simp [hx]
  refine (congrArg _ e).trans (rec_fill r d _ ?_)
  simp
theorem wp_append_rec {o : Oper} {a : Act} {w : World} {K : Act → World → Prop} {Q : Exit → Act → World → Prop} (s x : Operand)
    (ho : o.op = .call { callee := .builtin .append, args := #[s, x], argTypes := #[24, 24] }) (base : Nat) (v : Value) (L : List (Rec × Value)) (hs : a.eval s = v) (hown : w.ownsRow base 33 9 v L.length (encR L))
    (r : Rec) (aa : Option Addr) (n c A : Nat) (hx : a.eval x = .slice (some ⟨A, 0, none⟩) 1 1) (hA : w.heap[A]? = some (.cells (recC r (.slice aa n c)) 33 (0, 0))) (hn : L.length ≤ 1000) (hbase : base ≤ w.heap.size)
    (h : ∀ a' c' w', w'.ownsRow base 33 9 (.slice a' (L.length + 1) c') (L.length + 1) (encR L ++ recL (r, .slice aa n c)) → w.grownBy w' v.ownBlock → ((Value.slice a' (L.length + 1) c').ownBlock = v.ownBlock ∨ (Value.slice a' (L.length + 1) c').ownBlock = some w.heap.size) → K (a.put o.dst (.slice a' (L.length + 1) c')) w') : o.wp Try.prog a w K Q := by
  obtain ⟨i0, hi, hz0, hz1, hz2⟩ := info_parts infoRecs
  obtain ⟨v', w', hr, h2, h3, h4, h5⟩ := run_append_own_at (P := Try.prog) w base 24 o.type 33 i0 recZ 9 96 Try.underlying24 hi hz0 hz1 hz2 rfl (by decide) v L.length (encR L) hown ⟨A, 0, none⟩ 1 1 (recL (r, .slice aa n c)) rfl (fun j u hu => by rw [Addr.add_mid, Nat.zero_add, cell_of_row w A j _ _ _ hA]; simpa [recL] using hu) (recL_one r aa n c) (by unfold maxLen; omega) (by omega) hbase
  obtain ⟨a', c', rfl⟩ : ∃ a' c', v' = .slice a' (L.length + 1) c' := by
    rcases h2.2 with ⟨rfl, h0⟩ | ⟨g, cap, cur, rfl, _⟩
    · omega
    · exact ⟨_, _, rfl⟩
  unfold Oper.wp execOp
  simp only [ho, resolve, invoke, builtin, Sem.run_bind, Sem.run_pure, Result.andThen_ok, List.map_toArray, List.map_cons, List.map_nil, hs, hx, hr]
  exact h a' c' w' h2 h3 h5
end
theorem LogAt.clock {w : World} {p N : Nat} {most clock : Int} {bv v : Value} {L : List (Rec × Value)} (h : LogAt w p N most clock bv v L) (n : Int) : LogAt (w.setCell ⟨p, 3, none⟩ (.int .i64 n)) p N most n bv v L ∧ Bt (fun b => b = p) w (w.setCell ⟨p, 3, none⟩ (.int .i64 n)) := by
  have hb : Bt (fun b => b = p) w (w.setCell ⟨p, 3, none⟩ (.int .i64 n)) := Bt.row (grown_set w p 3 _) rfl
  refine ⟨⟨by rw [heap_setCell_same w p 3 _ _ _ h.blk]; rfl, h.base, own_bt h.own hb (fun k e z => h.px (by rw [e, z])), h.px, h.pN, fun x hx => (h.deps x hx).bt hb (fun k hk => .inl hk)⟩, hb⟩
/-- Behind an append: the list's value is stored in the log. -/
theorem LogAt.snoc {w w6 w7 : World} {p N : Nat} {most clock : Int} {bv v v' : Value} {L : List (Rec × Value)} {x : Rec × Value} (h : LogAt w p N most clock bv v L) (hg : Gr w w6) (hbt7 : Bt (fun b => v.ownBlock = some b) w6 w7)
    (hown : w7.ownsRow N 33 9 v' (L.length + 1) (encR L ++ recL x)) (hat : v'.ownBlock = v.ownBlock ∨ v'.ownBlock = some w6.heap.size) (hx : rdX (LX p v) w x.2 x.1.d) :
    LogAt (w7.setCell ⟨p, 2, none⟩ v') p N most clock bv v' (L ++ [x]) ∧ Bt (LX p v) w (w7.setCell ⟨p, 2, none⟩ v') ∧ (∀ b, v'.ownBlock = some b → v.ownBlock = some b ∨ w.heap.size ≤ b) := by
  have hp6 := blk_lt (hg.blk h.blk)
  have hp7 := (hbt7.block p hp6 h.px).trans (hg.blk h.blk)
  have hb8 : Bt (fun b => b = p) w7 (w7.setCell ⟨p, 2, none⟩ v') := Bt.row (grown_set w7 p 2 _) rfl
  have hb68 : Bt (LX p v) w6 (w7.setCell ⟨p, 2, none⟩ v') := (hbt7.mono (fun k _ hk => .inr hk)).tr (hb8.mono (fun k _ hk => .inl hk))
  have hpx : v'.ownBlock ≠ some p := fun e => by
    rcases hat with h1 | h1
    · exact h.px (by rw [← h1]; exact e)
    · rw [h1] at e; injection e with e; omega
  have hsub : ∀ k, LX p v' k → LX p v k ∨ w6.heap.size ≤ k := fun k hk => by
    rcases hk with hk | hk
    · exact .inl (.inl hk)
    · rcases hat with h1 | h1
      · exact .inl (.inr (by rw [← h1]; exact hk))
      · rw [h1] at hk; injection hk with hk; exact .inr (by omega)
  have dep : ∀ (d : Value) (l : List Int), rdX (LX p v) w d l → rdX (LX p v') (w7.setCell ⟨p, 2, none⟩ v') d l := fun d l hd =>
    (((hd.gr hg).wid (Y := fun b => LX p v b ∨ w6.heap.size ≤ b) (fun k hk => hk)).bt hb68 (fun k hk => .inl hk)).mono hsub
  refine ⟨⟨by rw [heap_setCell_same w7 p 2 _ _ _ hp7]; rfl, h.base, own_cast (own_bt hown hb8 (fun k e z => hpx (by rw [e, z]))) (by simp) (encR_snoc L x).symm, hpx, h.pN, fun y hy => ?_⟩, (Bt.of hg).tr hb68, fun b hb => ?_⟩
  · rcases List.mem_append.1 hy with hy | hy
    · exact dep _ _ (h.deps y hy)
    · rw [List.mem_singleton.1 hy]; exact dep _ _ hx
  · rcases hat with h1 | h1
    · exact .inl (by rw [← h1]; exact hb)
    · rw [h1] at hb; injection hb with hb; exact .inr (by have := hg.size; omega)
def AddPost (w : World) (p N : Nat) (most : Int) (bv v : Value) (L : List (Rec × Value)) (e : Ending) (w' : World) : Prop :=
  ∃ n v' clock', e = .returned (.int .i64 n) ∧ LogAt w' p N most clock' bv v' L ∧ Bt (LX p v) w w' ∧ (∀ b, v'.ownBlock = some b → v.ownBlock = some b ∨ w.heap.size ≤ b)
set_option maxRecDepth 100000 in
set_option maxHeartbeats 4000000 in
theorem add_bad (w : World) (p N : Nat) (most clock : Int) (bv v : Value) (L : List (Rec × Value)) (h : LogAt w p N most clock bv v L) (r : Rec) (d : Value) (hd : rdRow w 1 d r.d.length (encI r.d)) (hk : r.d.length ≤ 1000000) (hR : ¬ RecOk r) :
    Calls Try.prog 32 #[.pointer (some ⟨p, 0, none⟩), recV r d] w (AddPost w p N most bv v L) := by
  have Hck := Lib.hid (fun W hg => rcheck6_calls r d W (hd.gr hg) hk)
  rw [show errOf (decide (RecOk r)) = 1 by rw [decide_eq_false hR]; rfl] at Hck
  have HL := Lib.hid h
  clear hd hR h
  rw [recV_agg] at Hck ⊢
  unfold recC at Hck ⊢
  go_enter Try.func32, Try.ntmps32
  go_wp2_with fail
  obtain ⟨W0, e0, g0, b0, s0⟩ := al_out w (.cells (recC r d) 33)
  unfold recC at e0
  rw [e0]
  have B0 := Lib.hid b0; have G0 := Lib.hid g0
  clear b0 g0 s0 e0
  go_wp2_with (first | (refine wpList_load_row rfl 33 (.tmp 3) rfl w.heap.size rfl _ (recC r d) (0, 0) _ B0.out Try.underlying33 rfl info_rec ?_) | (go_at_call 47; refine (Hck.out _ (G0.out)).mono ?_; rintro e w1 ⟨rfl, hb⟩))
  go_ret
  exact ⟨_, v, clock, rfl, HL.out.gr' (G0.out.tr hb), Bt.of (G0.out.tr hb), fun b hb => .inl hb⟩
set_option maxRecDepth 100000 in
set_option maxHeartbeats 8000000 in
theorem add_good (w : World) (p N : Nat) (most clock : Int) (bv v : Value) (L : List (Rec × Value)) (h : LogAt w p N most clock bv v L) (r : Rec) (d : Value) (hdX : rdX (LX p v) w d r.d) (hk : r.d.length ≤ 1000000) (hR : RecOk r)
    (hn : L.length ≤ 1000) (hm : (L.length : Int) < most) (hcov : Cov (knowV (L.map (·.1))) r.d) (hq : r.q = atV (knowV (L.map (·.1))) r.st + 1) :
    Calls Try.prog 32 #[.pointer (some ⟨p, 0, none⟩), recV r d] w (AddPost w p N most bv v (L ++ [(r, d)])) := by
  have hd := hdX.1
  have Hck := Lib.hid (fun W hg => rcheck6_calls r d W (hd.gr hg) hk)
  rw [show errOf (decide (RecOk r)) = 0 by rw [decide_eq_true hR]; rfl] at Hck
  have HL := Lib.hid h; have HdX := Lib.hid hdX; have HR := Lib.hid hR
  have Hkn := Lib.hid (fun W (hg : Gr w W) => know_calls W p N most clock bv v L (h.gr' hg) hn)
  have hkl := knowV_le (L.map (·.1))
  have hrng := recOk_rng hR
  obtain ⟨K9, hK9⟩ : ∃ K9, knowV (L.map (·.1)) = K9 := ⟨_, rfl⟩
  rw [hK9] at hcov hq Hkn hkl
  have Hcv := Lib.hid (fun (kv : Value) W (h1 : rdRow W 1 kv K9.length (encI K9)) (hg : Gr w W) => rcovers_calls kv d K9 r.d W h1 (hd.gr hg) (by omega) hk)
  rw [decide_eq_true hcov] at Hcv
  have hann := atV_nn K9 r.st
  have hwr : IntKind.i64.wrap (atV K9 r.st + 1) = atV K9 r.st + 1 := by unfold topN at hann; simp [IntKind.wrap, IntKind.bits, IntKind.signed]; omega
  have hqe : (r.q != atV K9 r.st + 1) = false := by simp [hq]
  obtain ⟨a, c, rfl, hc⟩ := h.form
  obtain ⟨⟨_, ad, cd, rfl, _⟩, _⟩ := id hdX
  have hd1 := rdX_one hdX
  have Hd1 := Lib.hid hd1
  have hmd : decide (most ≤ (L.length : Int)) = false := decide_eq_false (by omega)
  have Hkl := Lib.hid hkl
  clear hd hdX hR h hcov hq hK9 hann hrng hc hd1 hkl
  rw [recV_agg] at Hck ⊢
  unfold recC at Hck ⊢
  go_enter Try.func32, Try.ntmps32
  go_wp2_with fail
  obtain ⟨W0, e0, g0, b0, s0⟩ := al_out w (.cells (recC r (.slice ad r.d.length cd)) 33)
  unfold recC at e0
  rw [e0]
  obtain ⟨A3, eA3⟩ : ∃ A, w.heap.size = A := ⟨_, rfl⟩
  rw [eA3] at b0 ⊢
  have B0 := Lib.hid b0; have G0 := Lib.hid g0; have EA := Lib.hid eA3
  clear b0 g0 s0 e0 eA3
  go_wp2_with (first | (refine wpList_load_row rfl 33 (.tmp 3) rfl A3 rfl _ (recC r (.slice ad r.d.length cd)) (0, 0) _ B0.out Try.underlying33 rfl info_rec ?_) | (go_at_call 47; refine (Hck.out _ (G0.out)).mono ?_; rintro e w1 ⟨rfl, hb⟩; have G1 := Lib.hid (G0.out.tr hb); have B1 := Lib.hid (hb.blk B0.out); clear hb) | (go_at_call 31; refine (Hkn.out _ G1.out).mono ?_; rintro e w2 ⟨kv, rfl, hkv, hb⟩; have G2 := Lib.hid (G1.out.tr hb); have B2 := Lib.hid (hb.blk B1.out); have HKV := Lib.hid hkv.1; have c38 := cell_of_row _ A3 8 _ _ _ B2.out; rw [show (recC r (.slice ad r.d.length cd))[8]? = some (.slice ad r.d.length cd) from rfl] at c38; clear hb hkv) | (go_at_call 17; refine (Hcv.out kv _ HKV.out G2.out).mono ?_; rintro e w3 ⟨rfl, hb⟩; have G3 := Lib.hid (G2.out.tr hb); have B3 := Lib.hid (hb.blk B2.out); have HKV3 := Lib.hid (HKV.out.gr hb); clear hb))
  refine region_start (S := fun w' => Gr w3 w') (by kernel_rfl) (by exact Gr.dr Gr.rfl') (fun wz hz0 hHeld => ?_)
  simp only [List.size_toArray, List.length_cons, List.length_nil, Nat.reduceAdd]
  refine wpAnyH_take (i := 0) (oi := ?_) (v := ?_) ?_ (by kernel_rfl) (by kernel_rfl) (by kernel_rfl) ?_ ?_ (by assumption) ?_; rotate_left 2; (focus (simp only [List.getElem?_toArray, List.getElem?_cons_zero]; rfl)); (focus (exact fun _ _ _ h => h)); first | (focus (refine Or.inl ⟨by rfl, ?_⟩; intro w hSw; (try dsimp only at hSw); (try dsimp only [Array.getD]); go_simp; (try with_reducible rfl))) | (focus (refine Or.inr ⟨by rfl, ?_⟩; rfl)) | fail "op 0"
  try simp only [Act.put, List.setIfInBounds_toArray, List.set_cons_zero, List.set_cons_succ]
  refine wpAnyH_take (i := 1) (oi := ?_) (v := ?_) ?_ (by kernel_rfl) (by kernel_rfl) (by kernel_rfl) ?_ ?_ (by assumption) ?_; rotate_left 2; (focus (simp only [List.getElem?_toArray, List.getElem?_cons_succ, List.getElem?_cons_zero]; rfl)); (focus (exact fun _ _ _ h => h)); first | (focus (refine Or.inl ⟨by rfl, ?_⟩; intro w hSw; (try dsimp only at hSw); (try dsimp only [Array.getD]); go_simp; (try with_reducible rfl))) | (focus (refine Or.inr ⟨by rfl, ?_⟩; rfl)) | fail "op 1"
  try simp only [Act.put, List.setIfInBounds_toArray, List.set_cons_zero, List.set_cons_succ]
  refine wpAnyH_take (i := 2) (oi := ?_) (v := ?_) ?_ (by kernel_rfl) (by kernel_rfl) (by kernel_rfl) ?_ ?_ (by assumption) ?_; rotate_left 2; (focus (simp only [List.getElem?_toArray, List.getElem?_cons_succ, List.getElem?_cons_zero]; rfl)); (focus (exact fun _ _ _ h => h)); first | (focus (refine Or.inl ⟨by rfl, ?_⟩; intro w hSw; (try dsimp only at hSw); (try dsimp only [Array.getD]); go_simp; (try with_reducible rfl))) | (focus (refine Or.inr ⟨by rfl, ?_⟩; rfl)) | fail "op 2"
  try simp only [Act.put, List.setIfInBounds_toArray, List.set_cons_zero, List.set_cons_succ]
  refine wpAnyH_take (i := 3) (oi := ?_) (v := ?_) ?_ (by kernel_rfl) (by kernel_rfl) (by kernel_rfl) ?_ ?_ (by assumption) ?_; rotate_left 2; (focus (simp only [List.getElem?_toArray, List.getElem?_cons_succ, List.getElem?_cons_zero]; rfl)); (focus (exact fun _ _ _ h => h)); first | (focus (refine Or.inl ⟨by rfl, ?_⟩; intro w hSw; (try dsimp only at hSw); (try dsimp only [Array.getD]); go_simp; (try with_reducible rfl))) | (focus (refine Or.inr ⟨by rfl, ?_⟩; rfl)) | fail "op 3"
  try simp only [Act.put, List.setIfInBounds_toArray, List.set_cons_zero, List.set_cons_succ]
  refine wpAnyH_take (i := 4) (oi := ?_) (v := ?_) ?_ (by kernel_rfl) (by kernel_rfl) (by kernel_rfl) ?_ ?_ (by assumption) ?_; rotate_left 2; (focus (simp only [List.getElem?_toArray, List.getElem?_cons_succ, List.getElem?_cons_zero]; rfl)); (focus (exact fun _ _ _ h => h)); first | (focus (refine Or.inl ⟨by rfl, ?_⟩; intro w hSw; (try dsimp only at hSw); (try dsimp only [Array.getD]); go_simp; (try with_reducible rfl))) | (focus (refine Or.inr ⟨by rfl, ?_⟩; rfl)) | fail "op 4"
  try simp only [Act.put, List.setIfInBounds_toArray, List.set_cons_zero, List.set_cons_succ]
  refine wpAnyH_take (i := 5) (oi := ?_) (v := ?_) ?_ (by kernel_rfl) (by kernel_rfl) (by kernel_rfl) ?_ ?_ (by assumption) ?_; rotate_left 2; (focus (simp only [List.getElem?_toArray, List.getElem?_cons_succ, List.getElem?_cons_zero]; rfl)); (focus (exact fun _ _ _ h => h)); first | (focus (refine Or.inl ⟨by rfl, ?_⟩; intro w hSw; (try dsimp only at hSw); have c37 := cell_of_row w A3 7 _ _ _ (hSw.blk B3.out); rw [show (recC r (.slice ad r.d.length cd))[7]? = some (.int .i64 r.q) from rfl] at c37; (try dsimp only [Array.getD]); go_simp; (try with_reducible rfl))) | (focus (refine Or.inr ⟨by rfl, ?_⟩; rfl)) | fail "op 5"
  try simp only [Act.put, List.setIfInBounds_toArray, List.set_cons_zero, List.set_cons_succ]
  refine wpAnyH_take (i := 6) (oi := ?_) (v := ?_) ?_ (by kernel_rfl) (by kernel_rfl) (by kernel_rfl) ?_ ?_ (by assumption) ?_; rotate_left 2; (focus (simp only [List.getElem?_toArray, List.getElem?_cons_succ, List.getElem?_cons_zero]; rfl)); (focus (exact fun _ _ _ h => h)); first | (focus (refine Or.inl ⟨by rfl, ?_⟩; intro w hSw; (try dsimp only at hSw); (try dsimp only [Array.getD]); go_simp; (try with_reducible rfl))) | (focus (refine Or.inr ⟨by rfl, ?_⟩; rfl)) | fail "op 6"
  try simp only [Act.put, List.setIfInBounds_toArray, List.set_cons_zero, List.set_cons_succ]
  refine wpAnyH_take (i := 7) (oi := ?_) (v := ?_) ?_ (by kernel_rfl) (by kernel_rfl) (by kernel_rfl) ?_ ?_ (by assumption) ?_; rotate_left 2; (focus (simp only [List.getElem?_toArray, List.getElem?_cons_succ, List.getElem?_cons_zero]; rfl)); (focus (exact fun _ _ _ h => h)); first | (focus (refine Or.inl ⟨by rfl, ?_⟩; intro w hSw; (try dsimp only at hSw); (try dsimp only [Array.getD]); go_simp; (try with_reducible rfl))) | (focus (refine Or.inr ⟨by rfl, ?_⟩; rfl)) | fail "op 7"
  try simp only [Act.put, List.setIfInBounds_toArray, List.set_cons_zero, List.set_cons_succ]
  refine wpAnyH_take (i := 8) (oi := ?_) (v := ?_) ?_ (by kernel_rfl) (by kernel_rfl) (by kernel_rfl) ?_ ?_ (by assumption) ?_; rotate_left 2; (focus (simp only [List.getElem?_toArray, List.getElem?_cons_succ, List.getElem?_cons_zero]; rfl)); (focus (exact fun _ _ _ h => h)); first | (focus (refine Or.inl ⟨by rfl, ?_⟩; intro w hSw; (try dsimp only at hSw); (try dsimp only [Array.getD]); go_simp; (try with_reducible rfl))) | (focus (refine Or.inr ⟨by rfl, ?_⟩; rfl)) | fail "op 8"
  try simp only [Act.put, List.setIfInBounds_toArray, List.set_cons_zero, List.set_cons_succ]
  refine wpAnyH_take (i := 9) (oi := ?_) (v := ?_) ?_ (by kernel_rfl) (by kernel_rfl) (by kernel_rfl) ?_ ?_ (by assumption) ?_; rotate_left 2; (focus (simp only [List.getElem?_toArray, List.getElem?_cons_succ, List.getElem?_cons_zero]; rfl)); (focus (exact fun _ _ _ h => h)); first | (focus (refine Or.inl ⟨by rfl, ?_⟩; intro w hSw; (try dsimp only at hSw); have c36 := cell_of_row w A3 6 _ _ _ (hSw.blk B3.out); rw [show (recC r (.slice ad r.d.length cd))[6]? = some (.int .i64 r.st) from rfl] at c36; (try dsimp only [Array.getD]); go_simp; (try with_reducible rfl))) | (focus (refine Or.inr ⟨by rfl, ?_⟩; rfl)) | fail "op 9"
  try simp only [Act.put, List.setIfInBounds_toArray, List.set_cons_zero, List.set_cons_succ]
  refine wpAnyH_ready (rs := [10]) (by kernel_rfl) (by simp) ?_
  refine AllReadyH.cons (o := ?_) ?_ (fun K hK => ?_) AllReadyH.nil; rotate_left; (focus (simp only [List.getElem?_toArray, List.getElem?_cons_succ, List.getElem?_cons_zero]; rfl))
  go_simp
  go_at_call 19
  refine (rat_calls kv K9 r.st _ (HKV3.out.gr hHeld) (by have := Hkl.out; omega)).mono ?_
  rintro e w4 ⟨rfl, hb⟩
  refine hK.out _ _ (hHeld.tr hb) (fun hHeld => ?_)
  clear hK K
  try simp only [Act.put, List.setIfInBounds_toArray, List.set_cons_zero, List.set_cons_succ]
  refine wpAnyH_take (i := 11) (oi := ?_) (v := ?_) ?_ (by kernel_rfl) (by kernel_rfl) (by kernel_rfl) ?_ ?_ (by assumption) ?_; rotate_left 2; (focus (simp only [List.getElem?_toArray, List.getElem?_cons_succ, List.getElem?_cons_zero]; rfl)); (focus (exact fun _ _ _ h => h)); first | (focus (refine Or.inl ⟨by rfl, ?_⟩; intro w hSw; (try dsimp only at hSw); (try dsimp only [Array.getD]); go_simp; (try with_reducible rfl))) | (focus (refine Or.inr ⟨by rfl, ?_⟩; rfl)) | fail "op 11"
  try simp only [Act.put, List.setIfInBounds_toArray, List.set_cons_zero, List.set_cons_succ]
  refine wpAnyH_take (i := 12) (oi := ?_) (v := ?_) ?_ (by kernel_rfl) (by kernel_rfl) (by kernel_rfl) ?_ ?_ (by assumption) ?_; rotate_left 2; (focus (simp only [List.getElem?_toArray, List.getElem?_cons_succ, List.getElem?_cons_zero]; rfl)); (focus (exact fun _ _ _ h => h)); first | (focus (refine Or.inl ⟨by rfl, ?_⟩; intro w hSw; (try dsimp only at hSw); (try dsimp only [Array.getD]); go_simp; (try with_reducible rfl))) | (focus (refine Or.inr ⟨by rfl, ?_⟩; rfl)) | fail "op 12"
  try simp only [Act.put, List.setIfInBounds_toArray, List.set_cons_zero, List.set_cons_succ]
  refine wpAnyH_take (i := 13) (oi := ?_) (v := ?_) ?_ (by kernel_rfl) (by kernel_rfl) (by kernel_rfl) ?_ ?_ (by assumption) ?_; rotate_left 2; (focus (simp only [List.getElem?_toArray, List.getElem?_cons_succ, List.getElem?_cons_zero]; rfl)); (focus (exact fun _ _ _ h => h)); first | (focus (refine Or.inl ⟨by rfl, ?_⟩; intro w hSw; (try dsimp only at hSw); (try dsimp only [Array.getD]); go_simp; (try with_reducible rfl))) | (focus (refine Or.inr ⟨by rfl, ?_⟩; rfl)) | fail "op 13"
  try simp only [Act.put, List.setIfInBounds_toArray, List.set_cons_zero, List.set_cons_succ]
  refine wpAnyH_done (by kernel_rfl) ?_ _
  have G4 := Lib.hid (G3.out.tr hHeld); have B4 := Lib.hid (hHeld.blk B3.out)
  clear hHeld
  go_wp2_with fail
  refine region_start (S := fun w' => Gr w4 w') (by kernel_rfl) (by exact Gr.dr Gr.rfl') (fun wz hz0 hHeld => ?_)
  simp only [List.size_toArray, List.length_cons, List.length_nil, Nat.reduceAdd]
  refine wpAnyH_take (i := 0) (oi := ?_) (v := ?_) ?_ (by kernel_rfl) (by kernel_rfl) (by kernel_rfl) ?_ ?_ (by assumption) ?_; rotate_left 2; (focus (simp only [List.getElem?_toArray, List.getElem?_cons_zero]; rfl)); (focus (exact fun _ _ _ h => h)); first | (focus (refine Or.inl ⟨by rfl, ?_⟩; intro w hSw; (try dsimp only at hSw); (try dsimp only [Array.getD]); go_simp; (try with_reducible rfl))) | (focus (refine Or.inr ⟨by rfl, ?_⟩; rfl)) | fail "op 0"
  try simp only [Act.put, List.setIfInBounds_toArray, List.set_cons_zero, List.set_cons_succ]
  refine wpAnyH_take (i := 1) (oi := ?_) (v := ?_) ?_ (by kernel_rfl) (by kernel_rfl) (by kernel_rfl) ?_ ?_ (by assumption) ?_; rotate_left 2; (focus (simp only [List.getElem?_toArray, List.getElem?_cons_succ, List.getElem?_cons_zero]; rfl)); (focus (exact fun _ _ _ h => h)); first | (focus (refine Or.inl ⟨by rfl, ?_⟩; intro w hSw; (try dsimp only at hSw); (try dsimp only [Array.getD]); go_simp; (try with_reducible rfl))) | (focus (refine Or.inr ⟨by rfl, ?_⟩; rfl)) | fail "op 1"
  try simp only [Act.put, List.setIfInBounds_toArray, List.set_cons_zero, List.set_cons_succ]
  refine wpAnyH_take (i := 2) (oi := ?_) (v := ?_) ?_ (by kernel_rfl) (by kernel_rfl) (by kernel_rfl) ?_ ?_ (by assumption) ?_; rotate_left 2; (focus (simp only [List.getElem?_toArray, List.getElem?_cons_succ, List.getElem?_cons_zero]; rfl)); (focus (exact fun _ _ _ h => h)); first | (focus (refine Or.inl ⟨by rfl, ?_⟩; intro w hSw; (try dsimp only at hSw); (try dsimp only [Array.getD]); go_simp; (try with_reducible rfl))) | (focus (refine Or.inr ⟨by rfl, ?_⟩; rfl)) | fail "op 2"
  try simp only [Act.put, List.setIfInBounds_toArray, List.set_cons_zero, List.set_cons_succ]
  refine wpAnyH_take (i := 3) (oi := ?_) (v := ?_) ?_ (by kernel_rfl) (by kernel_rfl) (by kernel_rfl) ?_ ?_ (by assumption) ?_; rotate_left 2; (focus (simp only [List.getElem?_toArray, List.getElem?_cons_succ, List.getElem?_cons_zero]; rfl)); (focus (exact fun _ _ _ h => h)); first | (focus (refine Or.inl ⟨by rfl, ?_⟩; intro w hSw; (try dsimp only at hSw); have c2 := (cell_of_row w p 2 _ _ _ ((G4.out.tr hSw).blk HL.out.blk)).trans rfl; (try dsimp only [Array.getD]); go_simp; (try with_reducible rfl))) | (focus (refine Or.inr ⟨by rfl, ?_⟩; rfl)) | fail "op 3"
  try simp only [Act.put, List.setIfInBounds_toArray, List.set_cons_zero, List.set_cons_succ]
  refine wpAnyH_take (i := 4) (oi := ?_) (v := ?_) ?_ (by kernel_rfl) (by kernel_rfl) (by kernel_rfl) ?_ ?_ (by assumption) ?_; rotate_left 2; (focus (simp only [List.getElem?_toArray, List.getElem?_cons_succ, List.getElem?_cons_zero]; rfl)); (focus (exact fun _ _ _ h => h)); first | (focus (refine Or.inl ⟨by rfl, ?_⟩; intro w hSw; (try dsimp only at hSw); skip; (try dsimp only [Array.getD]); go_simp; (try with_reducible rfl))) | (focus (refine Or.inr ⟨by rfl, ?_⟩; rfl)) | fail "op 4"
  try simp only [Act.put, List.setIfInBounds_toArray, List.set_cons_zero, List.set_cons_succ]
  refine wpAnyH_take (i := 5) (oi := ?_) (v := ?_) ?_ (by kernel_rfl) (by kernel_rfl) (by kernel_rfl) ?_ ?_ (by assumption) ?_; rotate_left 2; (focus (simp only [List.getElem?_toArray, List.getElem?_cons_succ, List.getElem?_cons_zero]; rfl)); (focus (exact fun _ _ _ h => h)); first | (focus (refine Or.inl ⟨by rfl, ?_⟩; intro w hSw; (try dsimp only at hSw); (try dsimp only [Array.getD]); go_simp; (try with_reducible rfl))) | (focus (refine Or.inr ⟨by rfl, ?_⟩; rfl)) | fail "op 5"
  try simp only [Act.put, List.setIfInBounds_toArray, List.set_cons_zero, List.set_cons_succ]
  refine wpAnyH_take (i := 6) (oi := ?_) (v := ?_) ?_ (by kernel_rfl) (by kernel_rfl) (by kernel_rfl) ?_ ?_ (by assumption) ?_; rotate_left 2; (focus (simp only [List.getElem?_toArray, List.getElem?_cons_succ, List.getElem?_cons_zero]; rfl)); (focus (exact fun _ _ _ h => h)); first | (focus (refine Or.inl ⟨by rfl, ?_⟩; intro w hSw; (try dsimp only at hSw); (try dsimp only [Array.getD]); go_simp; (try with_reducible rfl))) | (focus (refine Or.inr ⟨by rfl, ?_⟩; rfl)) | fail "op 6"
  try simp only [Act.put, List.setIfInBounds_toArray, List.set_cons_zero, List.set_cons_succ]
  refine wpAnyH_take (i := 7) (oi := ?_) (v := ?_) ?_ (by kernel_rfl) (by kernel_rfl) (by kernel_rfl) ?_ ?_ (by assumption) ?_; rotate_left 2; (focus (simp only [List.getElem?_toArray, List.getElem?_cons_succ, List.getElem?_cons_zero]; rfl)); (focus (exact fun _ _ _ h => h)); first | (focus (refine Or.inl ⟨by rfl, ?_⟩; intro w hSw; (try dsimp only at hSw); (try dsimp only [Array.getD]); go_simp; (try with_reducible rfl))) | (focus (refine Or.inr ⟨by rfl, ?_⟩; rfl)) | fail "op 7"
  try simp only [Act.put, List.setIfInBounds_toArray, List.set_cons_zero, List.set_cons_succ]
  refine wpAnyH_take (i := 8) (oi := ?_) (v := ?_) ?_ (by kernel_rfl) (by kernel_rfl) (by kernel_rfl) ?_ ?_ (by assumption) ?_; rotate_left 2; (focus (simp only [List.getElem?_toArray, List.getElem?_cons_succ, List.getElem?_cons_zero]; rfl)); (focus (exact fun _ _ _ h => h)); first | (focus (refine Or.inl ⟨by rfl, ?_⟩; intro w hSw; (try dsimp only at hSw); have c0 := (cell_of_row w p 0 _ _ _ ((G4.out.tr hSw).blk HL.out.blk)).trans rfl; (try dsimp only [Array.getD]); go_simp; (try with_reducible rfl))) | (focus (refine Or.inr ⟨by rfl, ?_⟩; rfl)) | fail "op 8"
  try simp only [Act.put, List.setIfInBounds_toArray, List.set_cons_zero, List.set_cons_succ]
  refine wpAnyH_take (i := 9) (oi := ?_) (v := ?_) ?_ (by kernel_rfl) (by kernel_rfl) (by kernel_rfl) ?_ ?_ (by assumption) ?_; rotate_left 2; (focus (simp only [List.getElem?_toArray, List.getElem?_cons_succ, List.getElem?_cons_zero]; rfl)); (focus (exact fun _ _ _ h => h)); first | (focus (refine Or.inl ⟨by rfl, ?_⟩; intro w hSw; (try dsimp only at hSw); (try dsimp only [Array.getD]); go_simp; (try with_reducible rfl))) | (focus (refine Or.inr ⟨by rfl, ?_⟩; rfl)) | fail "op 9"
  try simp only [Act.put, List.setIfInBounds_toArray, List.set_cons_zero, List.set_cons_succ]
  refine wpAnyH_done (by kernel_rfl) ?_ _
  obtain ⟨w5, rfl⟩ : ∃ w, w = wz := ⟨_, rfl⟩
  have G5 := Lib.hid (G4.out.tr hHeld); have B5 := Lib.hid (hHeld.blk B4.out)
  clear hHeld
  go_wp2_with fail
  have hpA : p ≠ A3 := fun z => by have := blk_lt HL.out.blk; rw [EA.out] at this; omega
  have hoA : ∀ b, (Value.slice a L.length c).ownBlock = some b → b ≠ A3 := fun b hb z => by have := (HL.out.own.lt b hb).2; rw [EA.out] at this; omega
  refine region_startJ (S := fun w' => Bt (fun b => (Value.slice a L.length c).ownBlock = some b) w5 w') 10 (by kernel_rfl) (by exact Bt.of (Gr.dr Gr.rfl')) (fun wz hz0 hHeld => ?_)
  simp only [List.size_toArray, List.length_cons, List.length_nil, Nat.reduceAdd]
  refine wpAnyJ_take (i := 0) (oi := ?_) (v := ?_) ?_ (by kernel_rfl) ?_ ?_ (by assumption) ?_; rotate_left 2; (focus (simp only [List.getElem?_toArray, List.getElem?_cons_zero]; rfl)); (focus (exact fun _ _ _ h => h)); first | (focus (refine Or.inl ⟨by rfl, ?_⟩; intro w hSw; (try dsimp only at hSw); (try dsimp only [Array.getD]); go_simp; (try with_reducible rfl))) | (focus (refine Or.inr ⟨by rfl, ?_⟩; rfl)) | fail "op 0"
  try simp only [Act.put, List.setIfInBounds_toArray, List.set_cons_zero, List.set_cons_succ]
  refine wpAnyJ_take (i := 1) (oi := ?_) (v := ?_) ?_ (by kernel_rfl) ?_ ?_ (by assumption) ?_; rotate_left 2; (focus (simp only [List.getElem?_toArray, List.getElem?_cons_succ, List.getElem?_cons_zero]; rfl)); (focus (exact fun _ _ _ h => h)); first | (focus (refine Or.inl ⟨by rfl, ?_⟩; intro w hSw; (try dsimp only at hSw); (try dsimp only [Array.getD]); go_simp; (try with_reducible rfl))) | (focus (refine Or.inr ⟨by rfl, ?_⟩; rfl)) | fail "op 1"
  try simp only [Act.put, List.setIfInBounds_toArray, List.set_cons_zero, List.set_cons_succ]
  refine wpAnyJ_take (i := 2) (oi := ?_) (v := ?_) ?_ (by kernel_rfl) ?_ ?_ (by assumption) ?_; rotate_left 2; (focus (simp only [List.getElem?_toArray, List.getElem?_cons_succ, List.getElem?_cons_zero]; rfl)); (focus (exact fun _ _ _ h => h)); first | (focus (refine Or.inl ⟨by rfl, ?_⟩; intro w hSw; (try dsimp only at hSw); (try dsimp only [Array.getD]); go_simp; (try with_reducible rfl))) | (focus (refine Or.inr ⟨by rfl, ?_⟩; rfl)) | fail "op 2"
  try simp only [Act.put, List.setIfInBounds_toArray, List.set_cons_zero, List.set_cons_succ]
  refine wpAnyJ_take (i := 3) (oi := ?_) (v := ?_) ?_ (by kernel_rfl) ?_ ?_ (by assumption) ?_; rotate_left 2; (focus (simp only [List.getElem?_toArray, List.getElem?_cons_succ, List.getElem?_cons_zero]; rfl)); (focus (exact fun _ _ _ h => h)); first | (focus (refine Or.inl ⟨by rfl, ?_⟩; intro w hSw; (try dsimp only at hSw); (try dsimp only [Array.getD]); go_simp; (try with_reducible rfl))) | (focus (refine Or.inr ⟨by rfl, ?_⟩; rfl)) | fail "op 3"
  try simp only [Act.put, List.setIfInBounds_toArray, List.set_cons_zero, List.set_cons_succ]
  refine wpAnyJ_take (i := 4) (oi := ?_) (v := ?_) ?_ (by kernel_rfl) ?_ ?_ (by assumption) ?_; rotate_left 2; (focus (simp only [List.getElem?_toArray, List.getElem?_cons_succ, List.getElem?_cons_zero]; rfl)); (focus (exact fun _ _ _ h => h)); first | (focus (refine Or.inl ⟨by rfl, ?_⟩; intro w hSw; (try dsimp only at hSw); have c2 := (cell_of_row w p 2 _ _ _ ((hSw.block p (blk_lt (G5.out.blk HL.out.blk)) HL.out.px).trans (G5.out.blk HL.out.blk))).trans rfl; (try dsimp only [Array.getD]); go_simp; (try with_reducible rfl))) | (focus (refine Or.inr ⟨by rfl, ?_⟩; rfl)) | fail "op 4"
  try simp only [Act.put, List.setIfInBounds_toArray, List.set_cons_zero, List.set_cons_succ]
  refine wpAnyJ_take (i := 5) (oi := ?_) (v := ?_) ?_ (by kernel_rfl) ?_ ?_ (by assumption) ?_; rotate_left 2; (focus (simp only [List.getElem?_toArray, List.getElem?_cons_succ, List.getElem?_cons_zero]; rfl)); (focus (exact fun _ _ _ h => h)); first | (focus (refine Or.inl ⟨by rfl, ?_⟩; intro w hSw; (try dsimp only at hSw); refine (exec_load_row 33 (.tmp 3) (by rfl) A3 (by rfl) _ (recC r (.slice ad r.d.length cd)) (0, 0) _ ((hSw.block A3 (blk_lt B5.out) (fun z => hoA _ z rfl)).trans B5.out) Try.underlying33 rfl info_rec).trans ?_; with_reducible rfl)) | (focus (refine Or.inr ⟨by rfl, ?_⟩; rfl)) | fail "op 5"
  try simp only [Act.put, List.setIfInBounds_toArray, List.set_cons_zero, List.set_cons_succ]
  refine wpAnyJ_ready (rs := [6]) (by kernel_rfl) (by simp) (by rfl) ?_
  refine AllReadyJ.cons (o := ?_) ?_ (fun K hK => ?_) AllReadyJ.nil; rotate_left; (focus (simp only [List.getElem?_toArray, List.getElem?_cons_succ, List.getElem?_cons_zero]; rfl))
  rw [if_pos (by rfl)]
  refine wp_lit_rec (.tmp 45) rfl r (.slice ad r.d.length cd) rfl (fun w6 e6 => ?_)
  have hg6 : Gr w5 w6 := by rw [← e6]; exact hz0.tr (Gr.al Gr.rfl' _)
  have hA6 := heap_alloc_new wz (.cells (recC r (.slice ad r.d.length cd)) 33)
  rw [e6] at hA6
  obtain ⟨A6, eA6⟩ : ∃ A, wz.heap.size = A := ⟨_, rfl⟩
  have hlA6 : w5.heap.size ≤ A6 := by rw [← eA6]; exact hz0.size
  rw [eA6] at hA6 ⊢
  refine hK.out _ _ (Bt.of hg6) (fun hHeld => ?_)
  clear hK K
  try simp only [Act.put, List.setIfInBounds_toArray, List.set_cons_zero, List.set_cons_succ]
  refine wpAnyJ_ready (rs := [7]) (by kernel_rfl) (by simp) (by rfl) ?_
  refine AllReadyJ.cons (o := ?_) ?_ (fun K hK => ?_) AllReadyJ.nil; rotate_left; (focus (simp only [List.getElem?_toArray, List.getElem?_cons_succ, List.getElem?_cons_zero]; rfl))
  rw [if_pos (by rfl)]
  refine wp_append_rec (.tmp 44) (.tmp 46) rfl N _ L rfl (own_gr HL.out.own (G5.out.tr hg6)) r ad r.d.length cd A6 rfl hA6 hn (Nat.le_trans (Nat.le_trans HL.out.pN (Nat.le_of_lt (blk_lt HL.out.blk))) (G5.out.tr hg6).size) (fun a' c' w7 hown7 hg7 hat7 => ?_)
  have hbt7 : Bt (fun b => (Value.slice a L.length c).ownBlock = some b) w6 w7 := ⟨hg7.os, hg7.tape, hg7.output, hg7.size, fun b hb hne => hg7.block b hb (fun e => hne e.symm)⟩
  refine hK.out _ _ (hHeld.tr hbt7) (fun hHeld => ?_)
  clear hK K
  try simp only [Act.put, List.setIfInBounds_toArray, List.set_cons_zero, List.set_cons_succ]
  refine wpAnyJ_take (i := 8) (oi := ?_) (v := ?_) ?_ (by kernel_rfl) ?_ ?_ (by assumption) ?_; rotate_left 2; (focus (simp only [List.getElem?_toArray, List.getElem?_cons_succ, List.getElem?_cons_zero]; rfl)); (focus (exact fun _ _ _ h => h)); first | (focus (refine Or.inl ⟨by rfl, ?_⟩; intro w hSw; (try dsimp only at hSw); (try dsimp only [Array.getD]); go_simp; (try with_reducible rfl))) | (focus (refine Or.inr ⟨by rfl, ?_⟩; rfl)) | fail "op 8"
  try simp only [Act.put, List.setIfInBounds_toArray, List.set_cons_zero, List.set_cons_succ]
  refine wpAnyJ_take (i := 9) (oi := ?_) (v := ?_) ?_ (by kernel_rfl) ?_ ?_ (by assumption) ?_; rotate_left 2; (focus (simp only [List.getElem?_toArray, List.getElem?_cons_succ, List.getElem?_cons_zero]; rfl)); (focus (exact fun _ _ _ h => h)); first | (focus (refine Or.inl ⟨by rfl, ?_⟩; intro w hSw; (try dsimp only at hSw); (try dsimp only [Array.getD]); go_simp; (try with_reducible rfl))) | (focus (refine Or.inr ⟨by rfl, ?_⟩; rfl)) | fail "op 9"
  try simp only [Act.put, List.setIfInBounds_toArray, List.set_cons_zero, List.set_cons_succ]
  refine wpAnyJ_tail (i := 10) (o := ?_) (by kernel_rfl) (by decide) ?_ (fun K hK => ?_); rotate_left; (focus (simp only [List.getElem?_toArray, List.getElem?_cons_succ, List.getElem?_cons_zero]; rfl))
  have hp7 := (hHeld.block p (blk_lt (G5.out.blk HL.out.blk)) HL.out.px).trans (G5.out.blk HL.out.blk)
  have c2 := (cell_of_row w7 p 2 _ _ _ hp7).trans rfl
  have f2 := frozen_of_row w7 p 2 _ _ hp7
  go_simp
  refine hK.out _ _ ?_
  clear hK K
  try simp only [Act.put, List.setIfInBounds_toArray, List.set_cons_zero, List.set_cons_succ]
  refine wpAny_done (by kernel_rfl) ?_ _
  obtain ⟨hL8, hT8, ho8⟩ := HL.out.snoc (x := (r, .slice ad r.d.length cd)) (G5.out.tr hg6) hbt7 hown7 hat7 HdX.out
  have q3 := (heap_setCell_other w7 ⟨p, 2, none⟩ A3 (Value.slice a' (L.length + 1) c') (fun z => hpA z.symm)).trans ((hbt7.block A3 (blk_lt (hg6.blk B5.out)) (fun z => hoA _ z rfl)).trans (hg6.blk B5.out))
  generalize w7.setCell ⟨p, 2, none⟩ (Value.slice a' (L.length + 1) c') = w8 at *
  have HL8 := Lib.hid hL8; have HT8 := Lib.hid hT8; have HO8 := Lib.hid ho8
  have B8 := Lib.hid q3
  clear q3 hL8 hT8 ho8 hown7 hat7 hg7 hbt7 hA6 hlA6 e6 hHeld
  go_wp2_with fail
  obtain ⟨v8, ev8⟩ : ∃ v8, Value.slice a' (L.length + 1) c' = v8 := ⟨_, rfl⟩
  rw [ev8] at HL8 HO8
  refine region_start (S := fun w' => Gr w8 w') (by kernel_rfl) (by exact Gr.dr Gr.rfl') (fun wz hz0 hHeld => ?_)
  simp only [List.size_toArray, List.length_cons, List.length_nil, Nat.reduceAdd]
  refine wpAnyH_take (i := 0) (oi := ?_) (v := ?_) ?_ (by kernel_rfl) (by kernel_rfl) (by kernel_rfl) ?_ ?_ (by assumption) ?_; rotate_left 2; (focus (simp only [List.getElem?_toArray, List.getElem?_cons_zero]; rfl)); (focus (exact fun _ _ _ h => h)); first | (focus (refine Or.inl ⟨by rfl, ?_⟩; intro w hSw; (try dsimp only at hSw); (try dsimp only [Array.getD]); go_simp; (try with_reducible rfl))) | (focus (refine Or.inr ⟨by rfl, ?_⟩; rfl)) | fail "op 0"
  try simp only [Act.put, List.setIfInBounds_toArray, List.set_cons_zero, List.set_cons_succ]
  refine wpAnyH_take (i := 1) (oi := ?_) (v := ?_) ?_ (by kernel_rfl) (by kernel_rfl) (by kernel_rfl) ?_ ?_ (by assumption) ?_; rotate_left 2; (focus (simp only [List.getElem?_toArray, List.getElem?_cons_succ, List.getElem?_cons_zero]; rfl)); (focus (exact fun _ _ _ h => h)); first | (focus (refine Or.inl ⟨by rfl, ?_⟩; intro w hSw; (try dsimp only at hSw); (try dsimp only [Array.getD]); go_simp; (try with_reducible rfl))) | (focus (refine Or.inr ⟨by rfl, ?_⟩; rfl)) | fail "op 1"
  try simp only [Act.put, List.setIfInBounds_toArray, List.set_cons_zero, List.set_cons_succ]
  refine wpAnyH_take (i := 2) (oi := ?_) (v := ?_) ?_ (by kernel_rfl) (by kernel_rfl) (by kernel_rfl) ?_ ?_ (by assumption) ?_; rotate_left 2; (focus (simp only [List.getElem?_toArray, List.getElem?_cons_succ, List.getElem?_cons_zero]; rfl)); (focus (exact fun _ _ _ h => h)); first | (focus (refine Or.inl ⟨by rfl, ?_⟩; intro w hSw; (try dsimp only at hSw); have c35 := cell_of_row w A3 5 _ _ _ (hSw.blk B8.out); rw [show (recC r (.slice ad r.d.length cd))[5]? = some (.int .i64 r.c) from rfl] at c35; (try dsimp only [Array.getD]); go_simp; (try with_reducible rfl))) | (focus (refine Or.inr ⟨by rfl, ?_⟩; rfl)) | fail "op 2"
  try simp only [Act.put, List.setIfInBounds_toArray, List.set_cons_zero, List.set_cons_succ]
  refine wpAnyH_take (i := 3) (oi := ?_) (v := ?_) ?_ (by kernel_rfl) (by kernel_rfl) (by kernel_rfl) ?_ ?_ (by assumption) ?_; rotate_left 2; (focus (simp only [List.getElem?_toArray, List.getElem?_cons_succ, List.getElem?_cons_zero]; rfl)); (focus (exact fun _ _ _ h => h)); first | (focus (refine Or.inl ⟨by rfl, ?_⟩; intro w hSw; (try dsimp only at hSw); (try dsimp only [Array.getD]); go_simp; (try with_reducible rfl))) | (focus (refine Or.inr ⟨by rfl, ?_⟩; rfl)) | fail "op 3"
  try simp only [Act.put, List.setIfInBounds_toArray, List.set_cons_zero, List.set_cons_succ]
  refine wpAnyH_take (i := 4) (oi := ?_) (v := ?_) ?_ (by kernel_rfl) (by kernel_rfl) (by kernel_rfl) ?_ ?_ (by assumption) ?_; rotate_left 2; (focus (simp only [List.getElem?_toArray, List.getElem?_cons_succ, List.getElem?_cons_zero]; rfl)); (focus (exact fun _ _ _ h => h)); first | (focus (refine Or.inl ⟨by rfl, ?_⟩; intro w hSw; (try dsimp only at hSw); (try dsimp only [Array.getD]); go_simp; (try with_reducible rfl))) | (focus (refine Or.inr ⟨by rfl, ?_⟩; rfl)) | fail "op 4"
  try simp only [Act.put, List.setIfInBounds_toArray, List.set_cons_zero, List.set_cons_succ]
  refine wpAnyH_take (i := 5) (oi := ?_) (v := ?_) ?_ (by kernel_rfl) (by kernel_rfl) (by kernel_rfl) ?_ ?_ (by assumption) ?_; rotate_left 2; (focus (simp only [List.getElem?_toArray, List.getElem?_cons_succ, List.getElem?_cons_zero]; rfl)); (focus (exact fun _ _ _ h => h)); first | (focus (refine Or.inl ⟨by rfl, ?_⟩; intro w hSw; (try dsimp only at hSw); (try dsimp only [Array.getD]); go_simp; (try with_reducible rfl))) | (focus (refine Or.inr ⟨by rfl, ?_⟩; rfl)) | fail "op 5"
  try simp only [Act.put, List.setIfInBounds_toArray, List.set_cons_zero, List.set_cons_succ]
  refine wpAnyH_take (i := 6) (oi := ?_) (v := ?_) ?_ (by kernel_rfl) (by kernel_rfl) (by kernel_rfl) ?_ ?_ (by assumption) ?_; rotate_left 2; (focus (simp only [List.getElem?_toArray, List.getElem?_cons_succ, List.getElem?_cons_zero]; rfl)); (focus (exact fun _ _ _ h => h)); first | (focus (refine Or.inl ⟨by rfl, ?_⟩; intro w hSw; (try dsimp only at hSw); have c3 := (cell_of_row w p 3 _ _ _ (hSw.blk HL8.out.blk)).trans rfl; (try dsimp only [Array.getD]); go_simp; (try with_reducible rfl))) | (focus (refine Or.inr ⟨by rfl, ?_⟩; rfl)) | fail "op 6"
  try simp only [Act.put, List.setIfInBounds_toArray, List.set_cons_zero, List.set_cons_succ]
  refine wpAnyH_take (i := 7) (oi := ?_) (v := ?_) ?_ (by kernel_rfl) (by kernel_rfl) (by kernel_rfl) ?_ ?_ (by assumption) ?_; rotate_left 2; (focus (simp only [List.getElem?_toArray, List.getElem?_cons_succ, List.getElem?_cons_zero]; rfl)); (focus (exact fun _ _ _ h => h)); first | (focus (refine Or.inl ⟨by rfl, ?_⟩; intro w hSw; (try dsimp only at hSw); (try dsimp only [Array.getD]); go_simp; (try with_reducible rfl))) | (focus (refine Or.inr ⟨by rfl, ?_⟩; rfl)) | fail "op 7"
  try simp only [Act.put, List.setIfInBounds_toArray, List.set_cons_zero, List.set_cons_succ]
  refine wpAnyH_done (by kernel_rfl) ?_ _
  obtain ⟨w9, rfl⟩ : ∃ w, w = wz := ⟨_, rfl⟩
  have HL9 := Lib.hid (HL8.out.gr' hHeld); have HT9 := Lib.hid (HT8.out.tr (Bt.of hHeld)); have B9 := Lib.hid (hHeld.blk B8.out)
  clear hHeld hz0
  have c35 := cell_of_row w9 A3 5 _ _ _ B9.out
  rw [show (recC r (.slice ad r.d.length cd))[5]? = some (.int .i64 r.c) from rfl] at c35
  have c3 := (cell_of_row w9 p 3 _ _ _ HL9.out.blk).trans rfl
  have f3 := frozen_of_row w9 p 3 _ _ HL9.out.blk
  by_cases hcl : clock < r.c
  · go_wp2_with fail
    go_ret
    obtain ⟨z1, z2⟩ := HL9.out.clock r.c
    refine ⟨0, v8, r.c, rfl, z1, HT9.out.tr (z2.mono (fun k _ hk => .inl hk)), HO8.out⟩
  · go_wp2_with fail
    go_ret
    exact ⟨0, v8, clock, rfl, HL9.out, HT9.out, HO8.out⟩
end Go.Proofs.Ytnneebdcaefgoaa
