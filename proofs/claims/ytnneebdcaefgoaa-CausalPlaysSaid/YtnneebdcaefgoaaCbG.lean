/- CausalHolds: the walk. -/
import Derived.Test.YtnneebdcaefgoaaCbF
import Derived.Test.YtnneebdcaefgoaaCbH
import Derived.Maps.AppendAt
import Derived.Deep.DeepMust
import Derived.Laws.NewBlocks
import Derived.Deep.DeepCutAuto
namespace Go.Proofs.Ytnneebdcaefgoaa
open Go.RowKit Go.Maps
attribute [local go_sem] max2_mx min2_mn max_two' min_two'

theorem info_op : (Try.prog.info? 40).map (·.size) = some 10 := by kernel_rfl
theorem opC_one (o : OpR) (hd : o.d.oneCell' = true) : (opC o).toArray.all (·.oneCell') = true := by
  simp [opC, hd]; exact ⟨rfl, rfl, rfl, rfl, rfl, rfl, rfl, rfl, rfl⟩
theorem small_q (r : Rec) (d : Value) (w : World) (hd : rdRow w 1 d r.d.length (encI r.d)) (hk : r.d.length ≤ maxLen) :
    Calls Try.prog 15 #[recV r d] w fun e w' => ∃ (q : Rec) (a : Option Addr) (c : Nat), Hid (∃ s', s'.size ≤ 60 ∧ q = { r with s := s', d := r.d.take 12 }) ∧ q.d.length ≤ 12 ∧ Hid (d = .slice a r.d.length c) ∧ e = .returned (recV q (.slice a q.d.length c)) ∧ rdRow w' 1 (.slice a q.d.length c) q.d.length (encI q.d) ∧ Gr w w' :=
  (small_calls r d w hd hk).mono fun e w' ⟨s', a, c, h1, h2, h3, h4, h5⟩ => ⟨{ r with s := s', d := r.d.take 12 }, a, c, Lib.hid ⟨s', h3, rfl⟩, by simp; omega, Lib.hid h1, h2, h4, h5⟩
theorem sure_cov {B : Buf} {M : Nat → Int} (h : ∀ i : Nat, i < 8 → RunEnd B i (M i)) : Cov (vecOf M) B.out := fun i hi => by
  have h1 := h i hi
  have h2 := atV_nn B.out i
  rw [at8_vec hi ⟨by have := h1.1; omega, h1.2.1⟩, ← atV_in _ hi]
  exact h1.1
/-- What a loop over calls at a buffer knows at its head. -/
structure HoldsI (w : World) (k : Int) (i : Nat) (v : Value) (wr : World) (p : Nat) (mb : Option Nat) (B : Buf) (L : List (Rec × Value)) : Prop where
  gr : Gr w wr
  buf : BufE (fun b => v.ownBlock = some b) wr p mb B
  inv : Inv B
  most : B.most = k
  recs : Recs (BX p mb) wr w.heap.size v L
  held : ∀ s q r, B.f s q = some r → ∃ x ∈ L, x.1 = r
  new : ∀ b, BX p mb b → w.heap.size ≤ b
  len : L.length ≤ i
  short : ∀ x ∈ L, x.1.d.length ≤ 12
  deps : ∀ x ∈ L, rdX (fun b => w.heap.size ≤ b) wr x.2 x.1.d
theorem exec_load_mid {P : Program} {o : Oper} {a : Act} {w : World} (ty : TypeId) (x : Operand) (ho : o.op = .load ty x) (b f : Nat) (hx : a.eval x = .pointer (some ⟨b, f, none⟩)) (cs : List Value) (d : TypeDesc) (hc : w.rangeAt b f cs)
    (hu : P.underlying ty = some d) (hd : d.isRow = true) (hi : (P.info? ty).map (·.size) = some cs.length) : (execOp a.eval o).run P w = .ok (.value (.agg cs.toArray)) w := by
  unfold execOp
  simp only [ho, hx, Instr.loadAt, Instr.sureAddr, Sem.run_bind, Sem.run_pure, Result.andThen_ok, run_loadVar_mid w b f ty cs d hc hu hd hi]
theorem HoldsI.grow {w w3 w4 : World} {k : Int} {i p : Nat} {v : Value} {mb : Option Nat} {B : Buf} {L : List (Rec × Value)} (h : HoldsI w k i v w3 p mb B L) (hg : Gr w3 w4) : HoldsI w k i v w4 p mb B L :=
  ⟨h.gr.tr hg, BufX.gr' h.buf hg, h.inv, h.most, h.recs.gr hg, h.held, h.new, h.len, h.short, fun x hx => (h.deps x hx).gr hg⟩
theorem HoldsI.up {w w3 : World} {k : Int} {i p : Nat} {v : Value} {mb : Option Nat} {B : Buf} {L : List (Rec × Value)} (h : HoldsI w k i v w3 p mb B L) : HoldsI w k (i + 1) v w3 p mb B L :=
  ⟨h.gr, h.buf, h.inv, h.most, h.recs, h.held, h.new, Nat.le_succ_of_le h.len, h.short, h.deps⟩
theorem HoldsI.next {w w3 w4 : World} {k : Int} {i p : Nat} {v : Value} {mb : Option Nat} {B : Buf} {L : List (Rec × Value)} {e : Ending} (h : HoldsI w k i v w3 p mb B L) (hN : NextPost (fun b => v.ownBlock = some b) w3 p mb B e w4) :
    ∃ (r : Rec) (a : Option Addr) (c : Nat) (is : Bool) (B' : Buf), e = .returned (.tuple #[recV r (.slice a r.d.length c), .bool is]) ∧ HoldsI w k i v w4 p mb B' L ∧ (is = true → ∃ x ∈ L, x.1 = r) ∧ rdRow w4 1 (.slice a r.d.length c) r.d.length (encI r.d) := by
  rcases hN with ⟨kk, r, d, hkk, _, hs, rfl, h1, h2, h3⟩ | ⟨_, rfl, hg⟩
  · obtain ⟨⟨_, a, c, rfl, _⟩, _⟩ := id h1
    refine ⟨r, a, c, true, takeB B kk r, rfl, ⟨h3.gr h.gr h.new, h2, h.inv.take hkk hs, h.most, h.recs.bt h3 (fun _ z => z), fun s q r' e => h.held s q r' (take_f e), h.new, h.len, h.short, fun x hx => (h.deps x hx).bt h3 h.new⟩, fun _ => h.held _ _ _ (next_some hs).1, h1.1⟩
  · exact ⟨noRec, none, 0, false, B, rfl, h.grow hg, fun e => (by cases e), ⟨rfl, none, 0, rfl, Nat.le_refl _, fun h => absurd h (by decide)⟩⟩
/-- Behind an offer: as ahead, but what is held may be what was offered. -/
theorem HoldsI.offer {w w3 w4 : World} {k : Int} {i p : Nat} {v : Value} {mb : Option Nat} {B : Buf} {L : List (Rec × Value)} {q : Rec} {e : Ending} (h : HoldsI w k i v w3 p mb B L) (hO : OfferPost (fun b => v.ownBlock = some b) w3 p mb B q e w4) :
    e = .returned (.int .i64 (offN B q)) ∧ ∃ mb' B', ((offN B q = 0 ∧ B'.n = B.n + 1) ∨ (offN B q ≠ 0 ∧ B'.n = B.n)) ∧ Gr w w4 ∧ BufE (fun b => v.ownBlock = some b) w4 p mb' B' ∧ Inv B' ∧ B'.most = k ∧ Recs (BX p mb') w4 w.heap.size v L ∧ (∀ s q' r', B'.f s q' = some r' → (∃ x ∈ L, x.1 = r') ∨ (offN B q = 0 ∧ r' = q)) ∧ (∀ b, BX p mb' b → w.heap.size ≤ b) ∧
      (∀ A o, w3.heap[A]? = some o → ¬ BX p mb A → w4.heap[A]? = some o) ∧ Bt (BX p mb) w3 w4 := by
  obtain ⟨he, mb', h1, h2, h3, h4⟩ := hO
  refine ⟨he, mb', _, ?_, h2.gr h.gr h.new, h1, ?_, ?_, h.recs.buf h2 h3, fun s q' r' e => ?_, newer h.new h3 h.gr.size, fun A o ho hA => (keepA h2 h3 hA ho).1, h2⟩
  · unfold offB
    rcases off_cases B q with h0 | h0
    · left; rw [if_pos h0]; exact ⟨h0, rfl⟩
    · right; rw [if_neg (by omega)]; exact ⟨by omega, rfl⟩
  · unfold offB
    split
    · rename_i h0; exact h.inv.put h0
    · exact h.inv
  · unfold offB
    split
    · exact h.most
    · exact h.most
  · unfold offB at e
    split at e
    · rename_i h0
      rw [putB_f] at e
      split at e
      · injection e with e; exact .inr ⟨h0, e.symm⟩
      · exact .inl (h.held _ _ _ e)
    · exact .inl (h.held _ _ _ e)
set_option maxRecDepth 100000 in
set_option maxHeartbeats 8000000 in
theorem holds_law (room : Int) (v1 : Value) (ops : List OpR) (w : World) (hr : I64 room) (hv1 : rdRow w 10 v1 ops.length (ops.flatMap opC)) (hops : ∀ o ∈ ops, OpOk w o) (hlm : ops.length ≤ maxLen) :
    Calls Try.prog 4 #[.int .i64 room, v1] w fun e w' => e = .returned (.bool true) ∧ Gr w w' := by
  have hnil : ∀ W, rdRow W 1 (.slice none 0 0) ([] : List Int).length (encI []) := fun W => ⟨rfl, none, 0, rfl, Nat.le_refl _, fun h => by simp at h⟩
  have Hnew := Lib.hid (fun room W => new_calls room (.slice none 0 0) [] W (hnil W) (by decide))
  obtain ⟨a1, c1, rfl, hc1⟩ : ∃ a c, v1 = .slice a ops.length c ∧ ops.length ≤ c := by obtain ⟨_, a, c, e, h, _⟩ := hv1; exact ⟨a, c, e, h⟩
  have HV := Lib.hid hv1; have HO := Lib.hid hops
  unfold I64 at hr
  unfold maxLen at hlm
  clear hnil hv1 hops hc1
  have hm1 : -10 ≤ room.tmod 11 ∧ room.tmod 11 ≤ 10 := by
    have h1 := Int.tmod_lt_of_pos room (b := 11) (by omega)
    have h2 := Int.lt_tmod_of_pos room (b := 11) (by omega)
    omega
  obtain ⟨m, hm⟩ : ∃ m, room.tmod 11 = m := ⟨_, rfl⟩
  rw [hm] at hm1
  go_enter Try.func4, Try.ntmps4
  go_wp2_with fail
  refine (awake_calls _).mono ?_
  rintro e w1 ⟨rfl, hg1⟩
  have G1 := Lib.hid hg1
  clear hg1
  go_upto_if 24 with (fail)
  go_cut [6] (fun v wx => ∃ k : Int, 0 ≤ k ∧ k ≤ 10 ∧ v = .int .i64 k ∧ w1 = wx)
  case first =>
    by_cases hneg : m < 0
    · have hw : IntKind.i64.wrap (-m) = -m := by simp [IntKind.wrap, IntKind.bits, IntKind.signed]; omega
      go_wp2_with fail
      all_goals (go_meet; exact ⟨-m, by omega, by omega, rfl, rfl⟩)
    · go_wp2_with fail
      all_goals (go_meet; exact ⟨m, by omega, by omega, rfl, rfl⟩)
  case rest =>
    obtain ⟨k, hk0, hk1, rfl, rfl⟩ := hcut
    clear hm1 hm m
    go_wp2_with fail
    refine (Hnew.out k _).mono ?_
    rintro e w2 ⟨p, rfl, hp, hB, hg2⟩
    have G2 := Lib.hid (G1.out.tr hg2)
    have H0 := Lib.hid (show HoldsI w k 0 (.slice none 0 0) w2 p none (bufNew k []) [] from ⟨G2.out, BufX.wid hB (fun b hb => .inl (hb.elim id (fun z => by simp [Value.ownBlock] at z))), Inv.new, roomOf_in k hk0 (by omega), Recs.nil, fun s q r e => (by cases e), fun b hb => (by rcases hb with rfl | hb; exact Nat.le_trans G1.out.size hp; cases hb), Nat.le_refl _, fun x hx => (by simp at hx), fun x hx => (by simp at hx)⟩)
    clear hp hB hg2 Hnew G1 hr
    go_wp2_with fail
    go_loopw [8, 9] (fun v iv wr => ∃ (i : Nat) (mb : Option Nat) (B : Buf) (L : List (Rec × Value)), i ≤ ops.length ∧ i ≤ 60 ∧ iv = .int .i64 i ∧ Hid (HoldsI w k i v wr p mb B L)) (fun _ iv _ => ops.length - (intOf iv).toNat)
    case atStart => exact ⟨0, none, _, [], Nat.zero_le _, Nat.zero_le _, rfl, H0⟩
    case round =>
      obtain ⟨i, mb, B, L, hi1, hi2, rfl, HI⟩ := hrel
      by_cases hlt : i < ops.length ∧ i < 60
      · obtain ⟨hl1, hl2⟩ := hlt
        have hl1' : (i : Int) < ops.length := by omega
        have hl2' : (i : Int) < 60 := by omega
        obtain ⟨a8, c8, hv8, hc8⟩ := HI.out.recs.form
        obtain ⟨bs, os, cs, es, _, hrng⟩ := rd_range opC 10 (fun _ => rfl) HV.out (by omega)
        injection es with es1 es2 es3
        subst es1 hv8
        have Hrng := Lib.hid (rangeAt_gr HI.out.gr (hrng i hl1))
        have Ho := Lib.hid (HO.out _ (List.getElem_mem hl1))
        clear hrng es3
        obtain ⟨o, ho⟩ : ∃ o, ops[i] = o := ⟨_, rfl⟩
        rw [ho] at Hrng Ho
        clear ho
        have hd1 : o.d.oneCell' = true := by obtain ⟨_, a, c, e, _⟩ := Ho.out.2.2.1; rw [e]; rfl
        have Hd1 := Lib.hid hd1
        clear hd1
        go_upto_if 48 with (first | (refine wpList_load_mid rfl 40 (.tmp 43) rfl bs (os + i * 10) rfl (opC o) _ Hrng.out Try.underlying40 rfl info_op ?_) | (refine wpList_store_blk rfl 40 (.tmp 10) (.tmp 44) rfl wr.heap.size (opC o).toArray rfl rfl _ _ (heap_alloc_new wr _) rfl info_op (opC_one o Hd1.out) (fun w3 b3 g3 s3 => ?_); have c100 := cell_of_row _ _ 0 _ _ _ b3; rw [show ((opC o).toArray)[0]? = some (.int .i64 o.k) from rfl] at c100))
        obtain ⟨A10, eA⟩ : ∃ A, wr.heap.size = A := ⟨_, rfl⟩
        have hg3 : Gr wr w3 := gr_new (Gr.al Gr.rfl' (.cells #[.int .i64 0, .int .i64 0, .string ⟨#[]⟩, .int .i64 0, .int .i64 0, .int .i64 0, .int .i64 0, .int .i64 0, .int .i64 0, .slice none 0 0] 40)) g3 (Nat.le_refl _)
        have HI3 := Lib.hid (show HoldsI w k i (.slice a8 L.length c8) w3 p mb B L from HI.out.grow hg3)
        rw [eA] at b3 ⊢
        have hXA : ¬ BX p mb A10 := bx_lt HI.out.buf (Nat.le_of_eq eA)
        have B10 := Lib.hid b3; have HXA := Lib.hid hXA
        have Hd := Lib.hid (Ho.out.2.2.1.gr (HI3.out.gr))
        clear b3 g3 s3 hg3 eA c100 hXA HI Hrng
        go_cut [8] (fun v wx => ∃ (mb : Option Nat) (B : Buf) (L : List (Rec × Value)), HoldsI w k (i + 1) v wx p mb B L)
        case first =>
          by_cases hk3 : o.k.tmod 4 = 3
          · have hk3' : (o.k.tmod 4 == 3) = true := by simp [hk3]
            clear hk3
            --[[
            go_wp2_with fail
            refine (next_calls (fun b => (Value.slice a8 L.length c8).ownBlock = some b) w3 p mb B HI3.out.buf (fun b hb => (HI3.out.recs.1.lt b hb).2) (by have := HI3.out.inv.out; omega) HI3.out.inv.k HI3.out.inv.own).mono ?_
            intro e w4 hN
            obtain ⟨rx, ax, cx, is, B4, rfl, hI4, his, hdx⟩ := HI3.out.next hN
            have HI4 := Lib.hid hI4; have His := Lib.hid his; have Hdx := Lib.hid hdx
            clear hN hI4 his hdx HI3
            go_wp2_with (refine wpList_store_blk rfl 33 (.tmp 11) (.tmp 52) rfl w4.heap.size (recC rx (.slice ax rx.d.length cx)) rfl rfl _ _ (heap_alloc_new w4 _) rfl info_rec (one_rec _ _ rfl) (fun w5 b5 g5 s5 => ?_))
            have hg5 : Gr w4 w5 := gr_new (Gr.al Gr.rfl' (.cells #[.int .i64 0, .string ⟨#[]⟩, .int .i64 0, .int .i64 0, .int .i64 0, .int .i64 0, .int .i64 0, .int .i64 0, .slice none 0 0] 33)) g5 (Nat.le_refl _)
            obtain ⟨A11, eA11⟩ : ∃ A, w4.heap.size = A := ⟨_, rfl⟩
            rw [eA11] at b5 ⊢
            have B11 := Lib.hid b5; have G5 := Lib.hid hg5
            clear b5 g5 s5 hg5 eA11
            obtain ⟨wo, rfl⟩ : ∃ wo : World, wo = wr := ⟨_, rfl⟩
            go_loopw [13, 14] (fun f jv wx => ∃ (j : Nat) (fb : Bool), j ≤ L.length ∧ jv = .int .i64 j ∧ f = .bool fb ∧ Gr w5 wx ∧ Hid ((is = false → fb = true) ∧ ∀ x ∈ L.take j, x.1 = rx → fb = true)) (fun _ jv _ => L.length - (intOf jv).toNat)
            case atStart => exact ⟨0, !is, Nat.zero_le _, rfl, rfl, Gr.rfl', Lib.hid ⟨fun e => by rw [e]; rfl, fun x hx => by simp at hx⟩⟩
            case round =>
              obtain ⟨j, fb, hj, rfl, rfl, hg6, hF⟩ := hrel
              have hmx := HI4.out.len
              by_cases hjl : j < L.length
              · have hj1 : (0 : Int) ≤ (j : Int) := by omega
                have hj2 : (j : Int) < (L.length : Int) := by omega
                obtain ⟨bg, og, cg, eg, _, hrg⟩ := rd_range recL 9 (fun _ => rfl) (rdRow_of_own HI4.out.recs.1) (by omega)
                injection eg with eg1 eg2 eg3
                subst eg1
                have Hrg := Lib.hid (rangeAt_gr (G5.out.tr hg6) (hrg j hjl))
                have hxd := HI4.out.recs.2.2 _ (List.getElem_mem hjl)
                have hsh := HI4.out.short _ (List.getElem_mem hjl)
                have htk : L.take (j + 1) = L.take j ++ [L[j]] := List.take_succ_eq_append_getElem hjl
                obtain ⟨x, hx⟩ : ∃ x, L[j] = x := ⟨_, rfl⟩
                rw [hx] at Hrg hxd htk hsh
                have Htk := Lib.hid htk
                have Hsm := Lib.hid (fun W (hg : Gr wr W) => rsame6_calls x.1 rx x.2 (.slice ax rx.d.length cx) W (hxd.1.gr ((G5.out.tr hg6).tr hg)) (Hdx.out.gr ((G5.out.tr hg6).tr hg)) (by have := hsh; omega))
                clear hrg eg3 hx hxd htk
                go_wp2_with fail
                refine region_start (S := fun w' => Gr wr w') (by kernel_rfl) (by exact Gr.dr Gr.rfl') (fun wz hz0 hHeld => ?_)
                simp only [List.size_toArray, List.length_cons, List.length_nil, Nat.reduceAdd]
                refine wpAnyH_take (i := 0) (oi := ?_) (v := ?_) ?_ (by kernel_rfl) (by kernel_rfl) (by kernel_rfl) ?_ ?_ (by assumption) ?_; rotate_left 2; (focus (simp only [List.getElem?_toArray, List.getElem?_cons_zero]; rfl)); (focus (exact fun _ _ _ h => h)); first | (focus (refine Or.inl ⟨by rfl, ?_⟩; intro w hSw; (try dsimp only at hSw); (try dsimp only [Array.getD]); go_simp; (try with_reducible rfl))) | (focus (refine Or.inr ⟨by rfl, ?_⟩; rfl)) | fail "op 0"
                try simp only [Act.put, List.setIfInBounds_toArray, List.set_cons_zero, List.set_cons_succ]
                refine wpAnyH_take (i := 1) (oi := ?_) (v := ?_) ?_ (by kernel_rfl) (by kernel_rfl) (by kernel_rfl) ?_ ?_ (by assumption) ?_; rotate_left 2; (focus (simp only [List.getElem?_toArray, List.getElem?_cons_succ, List.getElem?_cons_zero]; rfl)); (focus (exact fun _ _ _ h => h)); first | (focus (refine Or.inl ⟨by rfl, ?_⟩; intro w hSw; (try dsimp only at hSw); (try dsimp only [Array.getD]); go_simp; (try with_reducible rfl))) | (focus (refine Or.inr ⟨by rfl, ?_⟩; rfl)) | fail "op 1"
                try simp only [Act.put, List.setIfInBounds_toArray, List.set_cons_zero, List.set_cons_succ]
                refine wpAnyH_take (i := 2) (oi := ?_) (v := ?_) ?_ (by kernel_rfl) (by kernel_rfl) (by kernel_rfl) ?_ ?_ (by assumption) ?_; rotate_left 2; (focus (simp only [List.getElem?_toArray, List.getElem?_cons_succ, List.getElem?_cons_zero]; rfl)); (focus (exact fun _ _ _ h => h)); first | (focus (refine Or.inl ⟨by rfl, ?_⟩; intro w hSw; (try dsimp only at hSw); (try dsimp only [Array.getD]); go_simp; (try with_reducible rfl))) | (focus (refine Or.inr ⟨by rfl, ?_⟩; rfl)) | fail "op 2"
                try simp only [Act.put, List.setIfInBounds_toArray, List.set_cons_zero, List.set_cons_succ]
                refine wpAnyH_take (i := 3) (oi := ?_) (v := ?_) ?_ (by kernel_rfl) (by kernel_rfl) (by kernel_rfl) ?_ ?_ (by assumption) ?_; rotate_left 2; (focus (simp only [List.getElem?_toArray, List.getElem?_cons_succ, List.getElem?_cons_zero]; rfl)); (focus (exact fun _ _ _ h => h)); first | (focus (refine Or.inl ⟨by rfl, ?_⟩; intro w hSw; (try dsimp only at hSw); refine (exec_load_mid 33 (.tmp 64) (by rfl) bg (og + j * 9) (by rfl) (recL x) _ (rangeAt_gr hSw Hrg.out) Try.underlying33 rfl info_rec).trans ?_; with_reducible rfl)) | (focus (refine Or.inr ⟨by rfl, ?_⟩; rfl)) | fail "op 3"
                try simp only [Act.put, List.setIfInBounds_toArray, List.set_cons_zero, List.set_cons_succ]
                refine wpAnyH_take (i := 4) (oi := ?_) (v := ?_) ?_ (by kernel_rfl) (by kernel_rfl) (by kernel_rfl) ?_ ?_ (by assumption) ?_; rotate_left 2; (focus (simp only [List.getElem?_toArray, List.getElem?_cons_succ, List.getElem?_cons_zero]; rfl)); (focus (exact fun _ _ _ h => h)); first | (focus (refine Or.inl ⟨by rfl, ?_⟩; intro w hSw; (try dsimp only at hSw); refine (exec_load_row 33 (.tmp 11) (by rfl) A11 (by rfl) _ (recC rx (.slice ax rx.d.length cx)) (0, 0) _ ((hg6.tr hSw).blk B11.out) Try.underlying33 rfl info_rec).trans ?_; with_reducible rfl)) | (focus (refine Or.inr ⟨by rfl, ?_⟩; rfl)) | fail "op 4"
                try simp only [Act.put, List.setIfInBounds_toArray, List.set_cons_zero, List.set_cons_succ]
                refine wpAnyH_ready (rs := [5]) (by kernel_rfl) (by simp) ?_
                refine AllReadyH.cons (o := ?_) ?_ (fun K hK => ?_) AllReadyH.nil; rotate_left; (focus (simp only [List.getElem?_toArray, List.getElem?_cons_succ, List.getElem?_cons_zero]; rfl))
                go_simp
                go_at_call 14
                refine (Hsm.out _ hHeld).mono ?_
                rintro e w7 ⟨sb, rfl, hsb, hb⟩
                refine hK.out _ _ (hHeld.tr hb) (fun hHeld => ?_)
                clear hK K
                try simp only [Act.put, List.setIfInBounds_toArray, List.set_cons_zero, List.set_cons_succ]
                refine wpAnyH_take (i := 6) (oi := ?_) (v := ?_) ?_ (by kernel_rfl) (by kernel_rfl) (by kernel_rfl) ?_ ?_ (by assumption) ?_; rotate_left 2; (focus (simp only [List.getElem?_toArray, List.getElem?_cons_succ, List.getElem?_cons_zero]; rfl)); (focus (exact fun _ _ _ h => h)); first | (focus (refine Or.inl ⟨by rfl, ?_⟩; intro w hSw; (try dsimp only at hSw); (try dsimp only [Array.getD]); go_simp; (try with_reducible rfl))) | (focus (refine Or.inr ⟨by rfl, ?_⟩; rfl)) | fail "op 6"
                try simp only [Act.put, List.setIfInBounds_toArray, List.set_cons_zero, List.set_cons_succ]
                refine wpAnyH_done (by kernel_rfl) ?_ _
                have hg7 := hg6.tr hHeld
                clear hHeld
                cases fb
                · go_wp2_with fail
                  go_roundw
                  case rel =>
                    refine ⟨j + 1, sb, by omega, by go_num, rfl, hg7, Lib.hid ⟨fun e => absurd (hF.out.1 e) (by decide), fun y hy hyr => ?_⟩⟩
                    rw [Htk.out] at hy
                    rcases List.mem_append.1 hy with hy | hy
                    · exact absurd (hF.out.2 y hy hyr) (by decide)
                    · rw [List.mem_singleton.1 hy] at hyr; exact hsb hyr
                  case measure => simp [intOf]; omega
                · go_wp2_with fail
                  go_roundw
                  case rel => exact ⟨j + 1, true, by omega, by go_num, rfl, hg7, Lib.hid ⟨fun _ => rfl, fun _ _ _ => rfl⟩⟩
                  case measure => simp [intOf]; omega
              · obtain rfl : j = L.length := by omega
                have hfb : fb = true := by
                  cases his9 : is with
                  | false => exact hF.out.1 his9
                  | true =>
                    obtain ⟨x, hx, hxr⟩ := His.out his9
                    exact hF.out.2 x (by rw [List.take_length]; exact hx) hxr
                subst hfb
                clear hF
                go_wp2_with fail
                go_meet
                have hG := G5.out.tr hg6
                exact ⟨mb, B4, L, (HI4.out.grow hG).up⟩
            --]]
          · have hk3' : (o.k.tmod 4 == 3) = false := by simp [hk3]
            clear hk3
            have hR23 := Lib.hid (rangeAt_blk B10.out 1 (recL (o.r, o.d)) (fun j u hu => by rw [List.getElem?_toArray, Nat.add_comm]; exact hu))
            go_wp2_with (first | (refine wpList_load_mid rfl 33 (.tmp 74) rfl A10 1 rfl (recL (o.r, o.d)) _ hR23.out Try.underlying33 rfl info_rec ?_) | (go_at_call 15; refine (small_q o.r o.d _ Hd.out Ho.out.2.2.2).mono ?_; rintro e w4 ⟨q, a4, n4, Hq, hq12, He4, rfl, hd4, hb4⟩) | (refine wpList_store_blk rfl 33 (.tmp 16) (.tmp 76) rfl w4.heap.size (recC q (.slice a4 q.d.length n4)) rfl rfl _ _ (heap_alloc_new w4 _) rfl info_rec (one_rec _ _ rfl) (fun w5 b5 g5 s5 => ?_); (have hg5 : Gr w3 w5 := gr_new (Gr.al hb4 (.cells #[.int .i64 0, .string ⟨#[]⟩, .int .i64 0, .int .i64 0, .int .i64 0, .int .i64 0, .int .i64 0, .int .i64 0, .slice none 0 0] 33)) g5 hb4.size); have Hb5 := Lib.hid (HI3.out.buf.at.gr' hg5)) | (go_at_call 16; refine (len_calls _ p mb B Hb5.out).mono ?_; rintro e w' ⟨rfl, rfl⟩) | (refine wpList_load_row rfl 33 (.tmp 16) rfl w4.heap.size rfl _ (recC q (.slice a4 q.d.length n4)) (0, 0) _ b5 Try.underlying33 rfl info_rec ?_))
            obtain ⟨A16, eA16⟩ : ∃ A, w4.heap.size = A := ⟨_, rfl⟩
            have hX16 : ¬ BX p mb A16 := bx_lt HI3.out.buf (by rw [← eA16]; exact hb4.size)
            rw [eA16] at b5 ⊢
            have hg5' : Gr w3 w5 := gr_new (Gr.al hb4 (.cells #[.int .i64 0, .string ⟨#[]⟩, .int .i64 0, .int .i64 0, .int .i64 0, .int .i64 0, .int .i64 0, .int .i64 0, .slice none 0 0] 33)) (eA16 ▸ g5) (by rw [← eA16]; exact hb4.size)
            have HI5 := Lib.hid (show HoldsI w k i (.slice a8 L.length c8) w5 p mb B L from HI3.out.grow hg5')
            have hd5 : rdRow w5 1 (.slice a4 q.d.length n4) q.d.length (encI q.d) := hd4.gr (gr_new (Gr.al Gr.rfl' (.cells #[.int .i64 0, .string ⟨#[]⟩, .int .i64 0, .int .i64 0, .int .i64 0, .int .i64 0, .int .i64 0, .int .i64 0, .slice none 0 0] 33)) (eA16 ▸ g5) (Nat.le_of_eq eA16))
            have hdX : rdX (BX p mb) w5 (.slice a4 q.d.length n4) q.d := ⟨hd5, fun a n c e h0 hk => by
              injection e with e1 e2 e3
              obtain ⟨s', _, hq9⟩ := Hq.out
              have hlo : 0 < o.r.d.length := by rw [hq9] at h0; simp at h0; omega
              have hbel := (rdX_below Ho.out.2.2.1).2 a o.r.d.length n4 (by rw [He4.out, e1]) hlo
              exact hbel (HI5.out.new _ hk)⟩
            have HQd := Lib.hid (show rdX (fun b => w.heap.size ≤ b) w5 (.slice a4 q.d.length n4) q.d from ⟨hd5, fun a n c e h0 hk => by
              injection e with e1 e2 e3
              obtain ⟨s', _, hq9⟩ := Hq.out
              have hlo : 0 < o.r.d.length := by rw [hq9] at h0; simp at h0; omega
              exact (rdX_below Ho.out.2.2.1).2 a o.r.d.length n4 (by rw [He4.out, e1]) hlo hk⟩)
            have HdX := Lib.hid hdX; have B16 := Lib.hid b5; have HX16 := Lib.hid hX16
            have Hq12 := Lib.hid hq12
            clear hX16 hg5' hd5 hdX b5 g5 s5 hg5 hb4 hd4 HI3 Hb5 eA16 B10 HXA hR23
            refine (offer_calls (fun b => (Value.slice a8 L.length c8).ownBlock = some b) w5 p mb B HI5.out.buf (fun b hb => (HI5.out.recs.1.lt b hb).2) (by have := HI5.out.inv.out; omega) HI5.out.inv.n' q _ HdX.out (by have := Hq12.out; omega)).mono ?_
            intro e w6 hO
            obtain ⟨rfl, mb6, B6, hc6, hg6, hb6, hi6, hm6, hr6, hh6, hn6, hk6, ht6⟩ := HI5.out.offer hO
            have B16' := Lib.hid (hk6 _ _ B16.out HX16.out)
            have G6 := Lib.hid hg6; have HB6 := Lib.hid hb6; have HI6 := Lib.hid hi6; have HM6 := Lib.hid hm6; have HR6 := Lib.hid hr6; have HH6 := Lib.hid hh6; have HN6 := Lib.hid hn6; have HD6 := Lib.hid (fun x hx => (HI5.out.deps x hx).bt ht6 HI5.out.new); have HQ6 := Lib.hid (HQd.out.bt ht6 HI5.out.new)
            have hb6' := Lib.hid (show BufAt w6 p mb6 B6 from HB6.out.at)
            clear hO hg6 hb6 hi6 hm6 hr6 hh6 hn6 hk6 B16 ht6
            have hno := HI5.out.inv.n'
            rcases hc6 with ⟨h0, hn1⟩ | ⟨h0, hn1⟩
            · rw [h0]
              have hn1' : ((B6.n : Int) == (B.n : Int) + 1) = true := by simp; omega
              have H0 := Lib.hid h0
              clear h0
              obtain ⟨i0, hi, hz0, hz1, hz2⟩ := info_parts infoRecs
              have hlen9 := HI5.out.len
              go_wp2_with (first | (refine wpList_load_row rfl 33 (.tmp 16) rfl A16 rfl _ (recC q (.slice a4 q.d.length n4)) (0, 0) _ B16'.out Try.underlying33 rfl info_rec ?_) | (refine wpList_lit_rec rfl (.tmp 85) rfl q (.slice a4 q.d.length n4) rfl ?_; refine Hid.out ?_))
              refine Lib.hid ?_
              refine wpList_append_own_at _ rfl (.tmp 84) (.tmp 86) 24 rfl w.heap.size 33 i0 recZ 9 96 Try.underlying24 hi hz0 hz1 hz2 rfl (by decide) (.slice a8 L.length c8) L.length (encR L) rfl (HR6.out.1.alloc _) ⟨w6.heap.size, 0, none⟩ 1 1 (recL (q, .slice a4 q.d.length n4)) rfl rfl (news_at w6.heap.size rfl) (recL_one q a4 q.d.length n4) (by unfold maxLen; omega) (by omega) (by have := G6.out.size; simp; omega) ?_
              intro v7 w7 hown7 hgrow7 hnil7 hat7
              have hg6a : Gr w6 (w6.alloc (.cells (recC q (.slice a4 q.d.length n4)) 33)) := Gr.al Gr.rfl' _
              have hbt7 : Bt (fun b => (Value.slice a8 L.length c8).ownBlock = some b) (w6.alloc (.cells (recC q (.slice a4 q.d.length n4)) 33)) w7 := ⟨hgrow7.os, hgrow7.tape, hgrow7.output, hgrow7.size, fun b hb hne => hgrow7.block b hb (fun e => hne e.symm)⟩
              have hownlo : ∀ b, (Value.slice a8 L.length c8).ownBlock = some b → w.heap.size ≤ b ∧ b < w6.heap.size := fun b hb => HR6.out.1.lt b hb
              have hI7 : HoldsI w k (i + 1) v7 w7 p mb6 B6 (L ++ [(q, .slice a4 q.d.length n4)]) := by
                refine ⟨hbt7.gr (G6.out.tr hg6a) (fun b hb => (hownlo b hb).1), ?_, HI6.out, HM6.out, ?_, ?_, HN6.out, ?_, ?_, ?_⟩
                · have h1 : BufX (fun b => BX p mb6 b ∨ ((Value.slice a8 L.length c8).ownBlock = some b ∨ (w6.alloc (.cells (recC q (.slice a4 q.d.length n4)) 33)).heap.size ≤ b)) _ p mb6 B6 := BufE.mono (BufX.gr' HB6.out hg6a) (fun b hb => hb)
                  refine BufX.wid (h1.bt hbt7 (fun b hb => .inr (.inl hb)) (fun b hb => HR6.out.2.1 b hb)) (fun b hb => .inl ?_)
                  rcases hb with hb | hb
                  · exact .inl hb
                  · right
                    rcases hat7 with h2 | h2
                    · left; rw [← h2]; exact hb
                    · right; rw [h2] at hb; injection hb with hb; omega
                · refine (HR6.out.gr hg6a).snoc hown7 hgrow7 (fun b hb => Nat.lt_of_lt_of_le (by rcases hb with hb | hb; (rw [hb]; exact HB6.out.1); exact (HB6.out.2.1 _ hb).1) hg6a.size) (fun b hb => ?_) ?_ (fun y hy => ?_)
                  · rcases hat7 with h2 | h2
                    · left; rw [← h2]; exact hb
                    · right; rw [h2] at hb; injection hb with hb; omega
                  · exact ((HQ6.out.gr hg6a).bt hbt7 (fun b hb => (hownlo b hb).1)).mono (fun b hb => HN6.out b hb)
                  · exact (((HD6.out y hy).gr hg6a).bt hbt7 (fun b hb => (hownlo b hb).1)).mono (fun b hb => HN6.out b hb)
                · intro s q' r' e
                  rcases HH6.out s q' r' e with ⟨x, hx, hxr⟩ | ⟨_, hr'⟩
                  · exact ⟨x, List.mem_append_left _ hx, hxr⟩
                  · exact ⟨_, List.mem_append_right _ (List.mem_singleton.2 rfl), hr'.symm⟩
                · simp; exact hlen9
                · intro x hx
                  rcases List.mem_append.1 hx with hx | hx
                  · exact HI5.out.short x hx
                  · rw [List.mem_singleton.1 hx]; exact Hq12.out
                · intro x hx
                  rcases List.mem_append.1 hx with hx | hx
                  · exact ((HD6.out x hx).gr hg6a).bt hbt7 (fun b hb => (hownlo b hb).1)
                  · rw [List.mem_singleton.1 hx]; exact (HQ6.out.gr hg6a).bt hbt7 (fun b hb => (hownlo b hb).1)
              have HI7 := Lib.hid hI7
              have hb7 := Lib.hid (show BufAt w7 p mb6 B6 from BufE.at hI7.buf)
              clear hI7 hown7 hgrow7 hnil7 hat7 hg6a hbt7 hownlo
              go_wp2_with (go_at_call 16; ((with_reducible refine (len_calls _ p mb6 B6 hb7.out).mono ?_); rintro e w' ⟨rfl, rfl⟩))
              go_meet
              exact ⟨mb6, B6, _, HI7.out⟩
            · have hI6 : HoldsI w k (i + 1) (.slice a8 L.length c8) w6 p mb6 B6 L := ⟨G6.out, HB6.out, HI6.out, HM6.out, HR6.out, fun s q' r' e => by
                rcases HH6.out s q' r' e with h | ⟨h, _⟩
                · exact h
                · exact absurd h h0, HN6.out, Nat.le_succ_of_le HI5.out.len, HI5.out.short, HD6.out⟩
              have HI7 := Lib.hid hI6
              have hxn := (off_cases B q).resolve_left h0
              obtain ⟨xn, hx⟩ : ∃ xn, offN B q = xn := ⟨_, rfl⟩
              rw [hx] at h0 hxn ⊢
              have hx0 : (xn == 0) = false := by simp [h0]
              have hx1 : (xn != 0) = true := by simp [h0]
              have hx2 : ¬ xn < 0 := by omega
              have hx3 : ¬ 3 < xn := by omega
              have hn1' : ((B6.n : Int) == (B.n : Int) + 1) = false := by simp; omega
              have hn2' : ((B6.n : Int) != (B.n : Int)) = false := by simp; omega
              clear hI6 hx h0 hn1
              go_wp2_with (go_at_call 16; ((with_reducible refine (len_calls _ p mb6 B6 hb6'.out).mono ?_); rintro e w' ⟨rfl, rfl⟩))
              go_meet
              exact ⟨mb6, B6, _, HI7.out⟩
        case rest =>
          obtain ⟨mb', B', L', hI⟩ := hcut
          have HI := Lib.hid hI
          have hb0 := BufE.at hI.buf
          have Hb0 := Lib.hid hb0
          have hout8 := hI.inv.out
          have hq9 := hI.inv.q
          have hnk : (B'.n : Int) ≤ k + 8 := by have := hI.inv.n; have := cnt_le B'; have := hI.most; omega
          have hnk' : ¬ k + 8 < (B'.n : Int) := by omega
          have Hsure := Lib.hid (sure_calls wc p mb' B' hb0 (by omega) hq9)
          clear hI hb0 hq9 Ho HI3 Hd B10 HXA
          go_wp2_with (go_at_call 18; ((with_reducible refine Hsure.out.mono ?_); rintro e w6 ⟨M, v6, hM, rfl, hrd6, hb6⟩; have HM := Lib.hid hM; clear hM))
          refine (out_calls w6 p mb' B' (Hb0.out.gr' hb6) (by omega)).mono ?_
          rintro e w7 ⟨v7, rfl, ho7, hb7⟩
          have hcov := rcovers_calls v6 v7 (vecOf M) B'.out w7 (hrd6.gr hb7) (rdRow_of_own ho7) (by have := vecOf_le M; omega) (by omega)
          rw [decide_eq_true (sure_cov HM.out)] at hcov
          have Hcov := Lib.hid hcov; have G7 := Lib.hid (hb6.tr hb7)
          clear hcov hrd6 ho7 hb6 hb7
          go_wp2_with fail
          refine Hcov.out.mono ?_
          rintro e w8 ⟨rfl, hb8⟩
          have G8 := Lib.hid (G7.out.tr hb8)
          have hb9 := Lib.hid (Hb0.out.gr' G8.out)
          clear hb8
          go_wp2_with (go_at_call 16; ((with_reducible refine (len_calls _ p mb' B' hb9.out).mono ?_); rintro e w' ⟨rfl, rfl⟩))
          go_roundw
          case rel => exact ⟨i + 1, mb', B', L', by omega, by omega, by go_num, Lib.hid (HI.out.grow G8.out)⟩
          case measure => simp [intOf]; omega
      · have hend : ¬ ((i : Int) < ops.length ∧ (i : Int) < 60) := by omega
        by_cases hl1 : i < ops.length
        · have hl1' : (i : Int) < ops.length := by omega
          have hl2' : ¬ (i : Int) < 60 := by omega
          clear hend
          go_wp2_with fail
          go_ret
          exact ⟨rfl, HI.out.gr⟩
        · have hl1' : ¬ (i : Int) < ops.length := by omega
          clear hend
          go_wp2_with fail
          go_ret
          exact ⟨rfl, HI.out.gr⟩
end Go.Proofs.Ytnneebdcaefgoaa
