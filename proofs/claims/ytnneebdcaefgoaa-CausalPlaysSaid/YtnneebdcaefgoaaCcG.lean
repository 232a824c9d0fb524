/- The buffer: Lacks. -/
import Derived.Test.YtnneebdcaefgoaaCcF
import Derived.Test.YtnneebdcaefgoaaSc
import Derived.Test.YtnneebdcaefgoaaCbQ
namespace Go.Proofs.Ytnneebdcaefgoaa
open Go.RowKit Go.Maps

set_option maxRecDepth 100000 in
theorem invK {key : Value} {kl : Lit} (h : keyOf Try.prog 67 key = some kl) : ∃ s q, key = kv s q ∧ I64 s ∧ I64 q ∧ kl = keyL s q := by
  have hc : Try.prog.cellsOf 67 = 2 := by kernel_rfl
  have hci : Try.prog.cellsOf 3 = 1 := by kernel_rfl
  have hk := h
  obtain ⟨m, hm⟩ : ∃ m, Try.prog.types.size = m + 1 := ⟨Try.prog.types.size - 1, by have : 0 < Try.prog.types.size := Nat.lt_of_le_of_lt (Nat.zero_le _) rowK; omega⟩
  unfold keyOf at h
  simp only [Try.underlying67] at h
  split at h
  · rename_i hf
    simp only [Bool.and_eq_true] at hf
    obtain ⟨_, hf⟩ := hf
    cases key <;> simp [Value.formed, Try.underlying67] at hf
    rename_i cs
    rw [hc] at hf
    obtain ⟨⟨l⟩, rfl⟩ : ∃ l, cs = l := ⟨cs, rfl⟩
    match l, hf with
    | [x, y], hxy =>
      clear hxy hf
      rw [hm] at h
      unfold Program.keyLits at h
      simp only [Try.underlying67, Value.cells] at h
      rw [if_pos (by rw [hc]; exact ⟨rfl, by simp⟩)] at h
      simp [hci, Program.keyLits, Try.underlying3] at h
      cases x <;> simp at h
      rename_i k1 s
      by_cases e1 : k1 = .i64 ∧ (Lit.int .i64 s).wf = true
      · obtain ⟨rfl, w1⟩ := e1
        have i1 := wf_i64 w1
        cases y <;> simp [w1] at h
        rename_i k2 q
        by_cases e2 : k2 = .i64 ∧ (Lit.int .i64 q).wf = true
        · obtain ⟨rfl, w2⟩ := e2
          have i2 := wf_i64 w2
          exact ⟨s, q, rfl, i1, i2, (Option.some.inj ((hkeyL i1 i2).symm.trans hk)).symm⟩
        · simp [e2] at h
      · simp [e1] at h
  · cases h
/-- What of the sites that wait has been told: of those entries that are not still to come. -/
def LackIs (B : Buf) (left : Lit → Bool) (l : List Int) : Prop := ∀ x, x ∈ l ↔ ∃ q, I64 x ∧ I64 q ∧ (B.f x q).isSome = true ∧ left (keyL x q) = false ∧ B.f x (atV B.out x + 1) = none
theorem LackIs.step {B : Buf} {left : Lit → Bool} {l : List Int} (h : LackIs B left l) {s q : Int} (hs : I64 s) (hq : I64 q) (hx : (B.f s q).isSome = true) (b : Bool) (hb : b = (B.f s (atV B.out s + 1)).isSome) :
    LackIs B (fun z => left z && !z.sameKey (keyL s q)) (if b then l else l ++ [s]) := by
  intro x
  have hkey : ∀ q', I64 x → I64 q' → ((keyL x q').sameKey (keyL s q) = true ↔ x = s ∧ q' = q) := fun q' i1 i2 => by
    constructor
    · intro e; exact keyL_inj i1 i2 hs hq (WideAt.sameKey_eq e)
    · rintro ⟨rfl, rfl⟩; exact WideAt.sameKey_self (lawK.key (hkeyL i1 i2))
  have hmem : x ∈ (if b then l else l ++ [s]) ↔ x ∈ l ∨ (b = false ∧ x = s) := by cases b <;> simp
  rw [hmem, h x]
  constructor
  · rintro (⟨q', i1, i2, h1, h2, h3⟩ | ⟨rfl, rfl⟩)
    · exact ⟨q', i1, i2, h1, by show (left (keyL x q') && !_) = false; rw [h2]; rfl, h3⟩
    · refine ⟨q, hs, hq, hx, ?_, ?_⟩
      · show (left _ && !_) = false
        rw [(hkey q hs hq).2 ⟨rfl, rfl⟩]; simp
      · cases e : B.f x (atV B.out x + 1) with
        | none => rfl
        | some r => rw [e] at hb; cases hb
  · rintro ⟨q', i1, i2, h1, h2, h3⟩
    by_cases e : x = s ∧ q' = q
    · obtain ⟨rfl, rfl⟩ := e
      exact .inr ⟨by rw [hb, h3]; rfl, rfl⟩
    · left
      refine ⟨q', i1, i2, h1, ?_, h3⟩
      have h4 : (keyL x q').sameKey (keyL s q) = false := by
        cases e2 : (keyL x q').sameKey (keyL s q) with
        | false => rfl
        | true => exact absurd ((hkey q' i1 i2).1 e2) e
      change (left (keyL x q') && !(keyL x q').sameKey (keyL s q)) = false at h2
      rw [h4] at h2
      simpa using h2
theorem ranges_gr {a b : World} {k : TypeId} {R : Value → Option (DataW Value × List MemPlace)} {m r n : Nat} {D : DataW Value} {left : Lit → Bool} {cnt : Nat} (h : a.ranges Try.prog k R m r n D left cnt) (hg : Gr a b) : b.ranges Try.prog k R m r n D left cnt :=
  h.kept (row := none) ⟨hg.os, hg.tape, hg.output, hg.size, fun i hi _ => hg.block i hi⟩ (by simp) (by simp)
set_option maxRecDepth 100000 in
set_option maxHeartbeats 4000000 in
theorem lacks_calls (w : World) (p : Nat) (mb : Option Nat) (B : Buf) (h : BufAt w p mb B) (ho : B.out.length ≤ 1000000) (hn : B.n ≤ 1000)
    (T : List Int) (hT : T.Pairwise (· < ·)) (hm : ∀ x, x ∈ T ↔ ∃ q, I64 x ∧ I64 q ∧ (B.f x q).isSome = true ∧ B.f x (atV B.out x + 1) = none) :
    Calls Try.prog 22 #[.pointer (some ⟨p, 0, none⟩)] w fun e w' => ∃ v', e = .returned v' ∧ rdRow w' 1 v' T.length (encI T) ∧ Gr w w' := by
  have hFst := fun (site : Int) (hs : I64 site) => first_calls w p mb B h ho site hs
  have Hfst := Lib.hid hFst
  obtain ⟨ov, _, _, c2, _⟩ := bcells h
  obtain ⟨_, _, ov', fv, _, _, h5, h6⟩ := id h
  have hfv : ∀ s q, (fv s q).isSome = (B.f s q).isSome := fun s q => by
    obtain ⟨h7, h8⟩ := h6 s q
    cases e : B.f s q with
    | none => rw [h7 e]; rfl
    | some r => obtain ⟨d, e2, _⟩ := h8 r e; rw [e2]; rfl
  rcases h5 with ⟨rfl, h0, hf0⟩ | ⟨b, D, rfl, hown, hsz, hat⟩
  · refine (lacks_none sort_nil w p none B h h0).mono ?_
    rintro e w' ⟨rfl, hg⟩
    have hT0 : T = [] := by
      cases T with
      | nil => rfl
      | cons x r =>
        obtain ⟨q, _, _, hx, _⟩ := (hm x).1 (List.mem_cons_self ..)
        have : (fv x q).isSome = true := by rw [hfv]; exact hx
        rw [hf0] at this; cases this
    rw [hT0]
    exact ⟨_, rfl, ⟨rfl, none, 0, rfl, Nat.le_refl _, fun h => absurd h (by decide)⟩, hg⟩
  · have HasD := Lib.hid (show ∀ s q, I64 s → I64 q → Maps.has D (keyL s q) = (B.f s q).isSome from fun s q i1 i2 => by rw [(hat s q i1 i2).1, hfv])
    have Hown := Lib.hid hown; have Hsz := Lib.hid hsz; have HM := Lib.hid hm; have HT := Lib.hid hT
    obtain ⟨i0, hi, hz0, hz1, hz2⟩ := info_parts infoInt
    clear hFst h h6 hfv hat hown hsz hm hT
    go_enter Try.func22, Try.ntmps22
    go_wp2_with (first | (at_range; refine wpList_range_own _ rfl _ 54 rfl 67 33 lawK Try.underlying54 heldR b B.n D rfl Hown.out ?_; intro w1 hrg1 hg1 hs1))
    go_frame
    have HG1 : Gr w w1 := ⟨hg1.os, hg1.tape, hg1.output, hg1.size, fun k hk => hg1.block k hk (by simp)⟩
    obtain ⟨R, eR⟩ : ∃ R, w.heap.size = R := ⟨_, rfl⟩
    rw [eR] at hrg1 hs1 ⊢
    go_loopw [3] (fun u wr => ∃ (l : List Int) (left : Lit → Bool) (cnt : Nat), wr.ranges Try.prog 67 heldR b R B.n D left cnt ∧ (∀ kl, left kl = true → Maps.has D kl = true) ∧ Hid (LackIs B left l) ∧ l.length + cnt ≤ B.n ∧ wr.ownsRow (R + 1) 3 1 u l.length (encI l) ∧ Gr w wr ∧ R + 1 ≤ wr.heap.size) (fun _ wr => wr.rangeLeft b R)
    case atStart =>
      refine ⟨[], Maps.has D, Maps.size D, hrg1, fun _ h => h, Lib.hid (fun x => ?_), by rw [Hsz.out]; simp, World.ownsRow_nil _ _ _ _, HG1, by omega⟩
      constructor
      · intro h; cases h
      · rintro ⟨q, i1, i2, h1, h2, _⟩
        rw [HasD.out x q i1 i2, h1] at h2; cases h2
    case round =>
      obtain ⟨l, left, cnt, hrg, hleft, hL, hlen, hrow, hg, hR⟩ := hrel
      obtain ⟨ua, uc, hu⟩ := own_slice hrow
      subst hu
      have Hrow := Lib.hid hrow; have Hleft := Lib.hid hleft
      clear hrow hleft
      go_wp2_with (at_next; refine wpList_next_ranges _ rfl _ rfl 67 lawK heldR (fun x : Int × Int => kv x.1 x.2) (fun c : Value => c) (fun key kl hk => by obtain ⟨s, q, e, _⟩ := invK hk; exact ⟨(s, q), e⟩) (fun v y _ => ⟨v, rfl⟩) b R B.n D left cnt rfl hrg ?_ ?_)
      · intro hc0 hl0
        have HE := Lib.hid (show srt l = T from srt_eq HT.out (fun x => by
          rw [hL.out x, HM.out x]
          constructor
          · rintro ⟨q, i1, i2, h1, _, h3⟩; exact ⟨q, i1, i2, h1, h3⟩
          · rintro ⟨q, i1, i2, h1, h3⟩; exact ⟨q, i1, i2, h1, hl0 _, h3⟩))
        clear hL hl0 hrg
        go_wp2_with fail
        refine (sort_own_calls _ (R + 1) _ l Hrow.out (by omega)).mono ?_
        rintro e w3 ⟨rfl, ho3, hg3⟩
        have G3 := Lib.hid (gr_gb hg hg3 (fun j hj => by have := (Hrow.out.lt j hj).1; omega))
        have Ho3 := Lib.hid (own_cast ho3 (srtd_len l).symm rfl)
        clear ho3 hg3
        go_wp2_with fail
        have hx3 : Value.slice ua l.length uc = Value.slice ua (srtd l).length uc := by rw [srtd_len]
        rw [hx3]
        have Ho3' := Ho3.out
        rw [hx3] at Ho3'
        refine (comp_own_calls _ (R + 1) _ (srtd l) Ho3' (by rw [srtd_len]; omega) (srtd_le l)).mono ?_
        rintro e w4 ⟨v4, rfl, ho4, hg4⟩
        have G4 := Lib.hid (gr_gb G3.out hg4 (fun j hj => by have := (Ho3'.lt j hj).1; omega))
        have Hr4 := Lib.hid (show rdRow w4 1 v4 T.length (encI T) by rw [← HE.out]; exact rdRow_of_own ho4)
        obtain ⟨a4, c4, rfl⟩ := own_slice ho4
        clear ho4 hg4 Ho3' hx3
        go_wp2_with fail
        go_ret
        exact ⟨_, rfl, Hr4.out, G4.out⟩
      · intro s q c kl y ps w2 cnt2 hkey hlx hy hat hrg2 hlt hg2 hs2 hen
        obtain ⟨s1, q1, ex, i1, i2, ekl⟩ := invK hkey
        obtain ⟨rfl, rfl⟩ : s = s1 ∧ q = q1 := by simpa [kv] using ex
        subst ekl
        have hhas : (B.f s q).isSome = true := by rw [← HasD.out s q i1 i2]; exact Hleft.out _ hlx
        have hleft2 : ∀ kl, (left kl && !kl.sameKey (keyL s q)) = true → Maps.has D kl = true := fun kl hk => Hleft.out kl (by simp at hk; exact hk.1)
        obtain ⟨r, d, is, hLk, hcall⟩ := Hfst.out s i1
        have hstep := hL.out.step i1 i2 hhas is hLk.2.1
        have hd1 := hLk.1
        have HG2 : Gr w w2 := gr_gb hg hg2 (fun j hj => by injection hj with hj; omega)
        have ho2 := own_bt Hrow.out (Bt.row (X := fun k => k = R) hg2 rfl) (fun k e z => by have := (Hrow.out.lt k e).1; omega)
        have G2 := Lib.hid HG2; have O2 := Lib.hid ho2; have HR2 := Lib.hid hrg2; have HL2 := Lib.hid hstep; have HD1 := Lib.hid hd1; have Hcall := Lib.hid hcall; have Hl2 := Lib.hid hleft2; have Hrg := Lib.hid hrg
        clear HG2 ho2 hrg2 hstep hd1 hcall hLk hleft2 hL Hrow hhas hat hlx hkey hy Hleft hg2 ex hrg
        cases is
        · have hR2 : R + 1 ≤ w2.heap.size := by omega
          clear hs2
          go_wp2_with (first | (go_at_call 38; refine (Hcall.out _ (Gr.al G2.out _)).mono ?_; rintro e w5 ⟨rfl, hb5⟩; have c40 := keepc hb5 ((cell_of_row _ w2.heap.size 0 _ _ _ (heap_alloc_new w2 (.cells #[.int .i64 s, .int .i64 q] 67))).trans rfl); have G4 : Gr w2 w5 := (Gr.al Gr.rfl' _).tr hb5) | (refine wpList_store_blk rfl 33 (.tmp 5) (.tmp 23) rfl w5.heap.size (recC r d) rfl rfl _ _ (heap_alloc_new w5 _) rfl info_rec (one_rec _ _ HD1.out) (fun w6 b6 g6 s6 => ?_); clear s6; (have G6 : Gr w2 w6 := gr_new (Gr.al G4 _) g6 G4.size); have c46 := keepc (gr_new (Gr.al Gr.rfl' _) g6 (Nat.le_refl _)) c40; have O6 := Lib.hid (own_gr O2.out G6)) | (at_builtin; refine wpList_append_own _ rfl _ _ 31 rfl (R + 1) 3 i0 _ 1 8 Try.underlying31 hi hz0 hz1 hz2 rfl (by decide) _ _ _ rfl (O6.out.alloc _) ⟨w6.heap.size, 0, none⟩ 1 1 [.int .i64 s] rfl rfl (World.news_of_block (heap_alloc_new w6 _)) (by intro u hu; simp only [List.mem_cons, List.not_mem_nil, or_false] at hu; subst hu; rfl) (by unfold maxLen; omega) (by omega) (by have := G6.size; simp; omega) ?_; intro v7 w7 hown7 hgrow7 _))
          have hown6 := fun j hj => (O6.out.lt j hj).1
          have hrg7 := Lib.hid ((ranges_gr HR2.out (Gr.al G6 (.cells #[.int .i64 s] 3))).kept hgrow7 (fun e => by have := hown6 b e.symm; have := Hown.out.lt; omega) (fun e => by have := hown6 R e.symm; omega))
          go_roundw
          case rel =>
            refine ⟨l ++ [s], _, cnt2, hrg7.out, Hl2.out, HL2, by simp; omega, own_cast hown7 (by simp) (by rw [encI_snoc]), gr_gb (by exact Gr.al (G2.out.tr G6) _) hgrow7 (fun j hj => by have := hown6 j hj; omega), ?_⟩
            have h1 := hgrow7.size; have h2 := G6.size; simp at h1; omega
          case measure => rw [hrg7.out.left_eq, Hrg.out.left_eq]; exact hlt
        · have hR2 : R + 1 ≤ w2.heap.size := by omega
          clear hs2
          go_wp2_with (first | (go_at_call 38; refine (Hcall.out _ (Gr.al G2.out _)).mono ?_; rintro e w5 ⟨rfl, hb5⟩; have G4 : Gr w2 w5 := (Gr.al Gr.rfl' _).tr hb5) | (refine wpList_store_blk rfl 33 (.tmp 5) (.tmp 23) rfl w5.heap.size (recC r d) rfl rfl _ _ (heap_alloc_new w5 _) rfl info_rec (one_rec _ _ HD1.out) (fun w6 b6 g6 s6 => ?_); clear s6; (have G6 : Gr w2 w6 := gr_new (Gr.al G4 _) g6 G4.size)))
          have hrg7 := Lib.hid (ranges_gr HR2.out G6)
          go_roundw
          case rel => exact ⟨l, _, cnt2, hrg7.out, Hl2.out, HL2, by omega, own_gr O2.out G6, G2.out.tr G6, by have := G6.size; omega⟩
          case measure => rw [hrg7.out.left_eq, Hrg.out.left_eq]; exact hlt
end Go.Proofs.Ytnneebdcaefgoaa
