/- Package files: what a crash picks (the closure next). -/
import Derived.Test.YtdopmcepfacdlaaFdL
namespace Go.Proofs.Ytdopmcepfacdlaa
open Go.RowKit Go.Maps
attribute [local go_sem] max2_mx min2_mn max_two' min_two'

/-- A pick, of so many and one. -/
def pk (x n : Int) : Int := (if x < 0 then -(x + 1) else x).tmod (n + 1)
theorem pk_rng (x : Int) {n : Int} (hn : 0 ≤ n) : 0 ≤ pk x n ∧ pk x n ≤ n := by
  unfold pk
  have h0 : 0 ≤ (if x < 0 then -(x + 1) else x) := by split <;> omega
  rw [Int.tmod_eq_emod_of_nonneg h0]
  have h1 := Int.emod_nonneg (if x < 0 then -(x + 1) else x) (show n + 1 ≠ 0 by omega)
  have h2 := Int.emod_lt_of_pos (if x < 0 then -(x + 1) else x) (show 0 < n + 1 by omega)
  omega
def PickAt (w : World) (bp : Nat) (l : List Int) : Prop := ∃ v, box w bp v 23 ∧ rdRow w 1 v l.length (encI l)
theorem PickAt.bt {Y : Nat → Prop} {w w' : World} {bp : Nat} {l : List Int} (h : PickAt w bp l) (hb : Bt Y w w') (hy : ¬ Y bp) (hd : ∀ v, box w bp v 23 → rdX Y w v l) : PickAt w' bp l := by
  obtain ⟨v, h1, h2⟩ := h
  exact ⟨v, h1.bt hb hy, ((hd v h1).bt hb (fun _ z => z)).1⟩
/-- A row of numbers lies in no block that begins with something else. -/
theorem rdX_kind {Y : Nat → Prop} {w : World} {v : Value} {l : List Int} (h : rdRow w 1 v l.length (encI l)) (hy : ∀ k, Y k → ∀ o i, w.cell? ⟨k, o, none⟩ ≠ some (.int .i64 i)) : rdX Y w v l := by
  refine ⟨h, fun a n c e h0 hk => ?_⟩
  obtain ⟨a', c', e', _, hc⟩ := rd_at h
  obtain ⟨b, o, ea, hcl⟩ := hc h0
  rw [e] at e'
  injection e' with e1
  rw [ea] at e1
  injection e1 with e2
  subst e2
  exact hy _ hk _ _ (hcl 0 h0)
theorem box_no {w : World} {k : Nat} {u : Value} {T : TypeId} (h : box w k u T) (hu : ∀ i, u ≠ .int .i64 i) : ∀ o i, w.cell? ⟨k, o, none⟩ ≠ some (.int .i64 i) := fun o i e => by
  rw [cell_of_row w k o _ _ _ h] at e
  cases o with
  | zero => simp at e; exact hu i e
  | succ o => simp at e
set_option maxRecDepth 100000 in
set_option maxHeartbeats 2000000 in
theorem next_calls (w : World) (bp : Nat) (l : List Int) (h : PickAt w bp l) (hl : ∀ x ∈ l, I64 x) (hk : l.length ≤ maxLen) (n : Int) (hn : 0 ≤ n ∧ n ≤ 4611686018427387904) :
    Calls Try.prog 46 #[.int .i64 n, adr bp] w fun e w' => e = .returned (.int .i64 (pk (l.headD 0) n)) ∧ PickAt w' bp l.tail ∧ Bt (fun k => k = bp) w w' := by
  obtain ⟨v, hb, hr⟩ := h
  have hne0 : ¬ n + 1 = 0 := by omega
  have hwn : IntKind.i64.wrap (n + 1) = n + 1 := wrap_id (by unfold I64; omega)
  have c0 := hb.cell
  have HP := Lib.hid (show ∀ x, pk x n = (if x < 0 then -(x + 1) else x).tmod (n + 1) from fun _ => rfl)
  cases l with
  | nil =>
    obtain ⟨a, c, rfl, _⟩ := rd_at hr
    have HB := Lib.hid hb; have HR := Lib.hid hr
    have hp0 : (0 : Int).tmod (n + 1) = 0 := by simp
    have e0 : pk (([] : List Int).headD 0) n = 0 := by show pk 0 n = 0; rw [HP.out]; simp
    rw [e0]
    clear hb hr hl hk hn e0 HP
    go_enter Try.func46, Try.ntmps46
    go_wp2_with fail
    go_ret
    exact ⟨rfl, ⟨_, HB.out, HR.out⟩, Bt.rfl'⟩
  | cons x r =>
    have hx := hl x (List.mem_cons_self ..)
    obtain ⟨a, c, rfl, hc, hcl⟩ := rd_at hr
    obtain ⟨b, o, rfl, hcl2⟩ := hcl (by simp)
    have cx := hcl2 0 (by simp)
    have hX := rdX_kind (Y := fun k => k = bp) hr (fun k z => by subst z; exact box_no hb (fun i e => by cases e))
    have f0 := frozen_of_row w bp 0 _ _ hb
    have HB := Lib.hid hb; have HX := Lib.hid hX
    have hxr : (x :: r).headD 0 = x := rfl
    have e0 : pk ((x :: r).headD 0) n = pk x n := rfl
    have hcap : (1 : Int) ≤ (c : Int) := by simp at hc; omega
    have hlr : ((x :: r).length : Int) = (r.length : Int) + 1 := by simp
    have hr0 : (0 : Int) < (r.length : Int) + 1 := by omega
    have hr1 : (1 : Int) ≤ (r.length : Int) + 1 := by omega
    have HC := Lib.hid hcl2; have HK := Lib.hid hk; have HCap := Lib.hid hc
    rw [e0]
    obtain ⟨pv, hpv⟩ : ∃ pv, pk x n = pv := ⟨_, rfl⟩
    rw [hpv]
    have HPv := Lib.hid (hpv.symm.trans (HP.out x))
    simp only [List.length_cons, List.getElem_cons_zero, Nat.add_zero] at *
    clear hb hr hX hl hk hxr e0 hpv hcl hcl2 hlr HP
    go_enter Try.func46, Try.ntmps46
    go_upto_region 3 with fail
    refine region_startJ (S := fun w' => Gr w w') 6 (by kernel_rfl) (by exact Gr.dr Gr.rfl') (fun wz hz0 hHeld => ?_)
    simp only [List.size_toArray, List.length_cons, List.length_nil, Nat.reduceAdd]
    refine wpAnyJ_take (i := 0) (oi := ?_) (v := ?_) ?_ (by kernel_rfl) ?_ ?_ (by assumption) ?_; rotate_left 2; (focus (simp only [List.getElem?_toArray, List.getElem?_cons_zero]; rfl)); (focus (exact fun _ _ _ h => h)); first | (focus (refine Or.inl ⟨by rfl, ?_⟩; intro w hSw; (try dsimp only at hSw); have c0 := keepc hSw c0; (try dsimp only [Array.getD]); go_simp; (try with_reducible rfl))) | (focus (refine Or.inr ⟨by rfl, ?_⟩; rfl)) | fail "op 0"
    try simp only [Act.put, List.setIfInBounds_toArray, List.set_cons_zero, List.set_cons_succ]
    refine wpAnyJ_take (i := 1) (oi := ?_) (v := ?_) ?_ (by kernel_rfl) ?_ ?_ (by assumption) ?_; rotate_left 2; (focus (simp only [List.getElem?_toArray, List.getElem?_cons_succ, List.getElem?_cons_zero]; rfl)); (focus (exact fun _ _ _ h => h)); first | (focus (refine Or.inl ⟨by rfl, ?_⟩; intro w hSw; (try dsimp only at hSw); (try dsimp only [Array.getD]); go_simp; (try with_reducible rfl))) | (focus (refine Or.inr ⟨by rfl, ?_⟩; rfl)) | fail "op 1"
    try simp only [Act.put, List.setIfInBounds_toArray, List.set_cons_zero, List.set_cons_succ]
    refine wpAnyJ_take (i := 2) (oi := ?_) (v := ?_) ?_ (by kernel_rfl) ?_ ?_ (by assumption) ?_; rotate_left 2; (focus (simp only [List.getElem?_toArray, List.getElem?_cons_succ, List.getElem?_cons_zero]; rfl)); (focus (exact fun _ _ _ h => h)); first | (focus (refine Or.inl ⟨by rfl, ?_⟩; intro w hSw; (try dsimp only at hSw); have cx := keepc hSw cx; (try dsimp only [Array.getD]); go_simp; (try with_reducible rfl))) | (focus (refine Or.inr ⟨by rfl, ?_⟩; rfl)) | fail "op 2"
    try simp only [Act.put, List.setIfInBounds_toArray, List.set_cons_zero, List.set_cons_succ]
    refine wpAnyJ_take (i := 3) (oi := ?_) (v := ?_) ?_ (by kernel_rfl) ?_ ?_ (by assumption) ?_; rotate_left 2; (focus (simp only [List.getElem?_toArray, List.getElem?_cons_succ, List.getElem?_cons_zero]; rfl)); (focus (exact fun _ _ _ h => h)); first | (focus (refine Or.inl ⟨by rfl, ?_⟩; intro w hSw; (try dsimp only at hSw); have c0 := keepc hSw c0; (try dsimp only [Array.getD]); go_simp; (try with_reducible rfl))) | (focus (refine Or.inr ⟨by rfl, ?_⟩; rfl)) | fail "op 3"
    try simp only [Act.put, List.setIfInBounds_toArray, List.set_cons_zero, List.set_cons_succ]
    refine wpAnyJ_take (i := 4) (oi := ?_) (v := ?_) ?_ (by kernel_rfl) ?_ ?_ (by assumption) ?_; rotate_left 2; (focus (simp only [List.getElem?_toArray, List.getElem?_cons_succ, List.getElem?_cons_zero]; rfl)); (focus (exact fun _ _ _ h => h)); first | (focus (refine Or.inl ⟨by rfl, ?_⟩; intro w hSw; (try dsimp only at hSw); (try dsimp only [Array.getD]); go_simp; (try with_reducible rfl))) | (focus (refine Or.inr ⟨by rfl, ?_⟩; rfl)) | fail "op 4"
    try simp only [Act.put, List.setIfInBounds_toArray, List.set_cons_zero, List.set_cons_succ]
    refine wpAnyJ_take (i := 5) (oi := ?_) (v := ?_) ?_ (by kernel_rfl) ?_ ?_ (by assumption) ?_; rotate_left 2; (focus (simp only [List.getElem?_toArray, List.getElem?_cons_succ, List.getElem?_cons_zero]; rfl)); (focus (exact fun _ _ _ h => h)); first | (focus (refine Or.inl ⟨by rfl, ?_⟩; intro w hSw; (try dsimp only at hSw); (try dsimp only [Array.getD]); go_simp; (try with_reducible rfl))) | (focus (refine Or.inr ⟨by rfl, ?_⟩; rfl)) | fail "op 5"
    try simp only [Act.put, List.setIfInBounds_toArray, List.set_cons_zero, List.set_cons_succ]
    refine wpAnyJ_tail (i := 6) (o := ?_) (by kernel_rfl) (by decide) ?_ (fun K hK => ?_); rotate_left; (focus (simp only [List.getElem?_toArray, List.getElem?_cons_succ, List.getElem?_cons_zero]; rfl))
    have c0 := keepc hHeld c0; have f0 := frozen_of_row _ bp 0 _ _ (hHeld.blk HB.out)
    go_simp
    refine hK.out _ _ ?_
    clear hK K
    try simp only [Act.put, List.setIfInBounds_toArray, List.set_cons_zero, List.set_cons_succ]
    refine wpAny_done (by kernel_rfl) ?_ _
    obtain ⟨v', hv'⟩ : ∃ v', Value.slice (if c = 1 then some { block := b, off := o } else some { block := b, off := o + 1 }) r.length (c - 1) = v' := ⟨_, rfl⟩
    have hrv : rdRow w 1 v' r.length (encI r) := by
      rw [← hv']
      refine ⟨by rw [encI_map]; simp, _, _, rfl, by omega, fun h0 => ⟨b, o + 1, if_neg (by omega), fun j u hu => ?_⟩⟩
      have hj : j < r.length := by have := (List.getElem?_eq_some_iff.1 hu).1; rw [encI_map] at this; simpa using this
      rw [encI_get hj] at hu
      injection hu with hu
      subst hu
      have := HC.out (j + 1) (by omega)
      rw [show o + 1 + j = o + (j + 1) by omega]
      exact this
    have hX2 := rdX_kind (Y := fun k => k = bp) hrv (fun k z => by subst z; exact box_no HB.out (fun i e => by cases e))
    rw [hv']
    have hb1 : Bt (fun k => k = bp) w (wz.setCell ⟨bp, 0, none⟩ v') := (Bt.of hHeld).tr (Bt.row (grown_set wz bp 0 _) rfl)
    have e1 := heap_setCell_same wz bp 0 _ _ v' (hHeld.blk HB.out)
    have hpk : Hid (PickAt (wz.setCell ⟨bp, 0, none⟩ v') bp r) := Lib.hid ⟨v', e1.trans rfl, (hX2.bt hb1 (fun _ z => z)).1⟩
    have HB1 := Lib.hid hb1
    generalize wz.setCell ⟨bp, 0, none⟩ v' = w9 at *
    clear hX2 hrv hb1 e1 c0 f0 hHeld hv'
    by_cases hneg : x < 0
    · have hw1 : IntKind.i64.wrap (x + 1) = x + 1 := wrap_id (by unfold I64 at hx ⊢; omega)
      have hw2 : IntKind.i64.wrap (-(x + 1)) = -(x + 1) := wrap_id (by unfold I64 at hx ⊢; omega)
      have e2 : (-(x + 1)).tmod (n + 1) = pv := by rw [HPv.out, if_pos hneg]
      have e3 : IntKind.i64.wrap pv = pv := wrap_id (by rw [HPv.out]; have h1 := pk_rng x hn.1; unfold pk at h1; unfold I64; omega)
      go_wp2_with fail
      go_ret
      exact ⟨rfl, hpk.out, HB1.out⟩
    · have e2 : x.tmod (n + 1) = pv := by rw [HPv.out, if_neg hneg]
      have e3 : IntKind.i64.wrap pv = pv := wrap_id (by rw [HPv.out]; have h1 := pk_rng x hn.1; unfold pk at h1; unfold I64; omega)
      go_wp2_with fail
      go_ret
      exact ⟨rfl, hpk.out, HB1.out⟩
end Go.Proofs.Ytdopmcepfacdlaa
