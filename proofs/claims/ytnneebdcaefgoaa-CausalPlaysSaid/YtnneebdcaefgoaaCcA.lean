/- The reference's buffer: what it is in memory; New, find, due. -/
import Derived.Test.YtnneebdcaefgoaaCbJ
import Derived.Test.YtnneebdcaefgoaaCbE2
namespace Go.Proofs.Ytnneebdcaefgoaa
open Go.RowKit Go.Maps

theorem rdX.or {X Y : Nat → Prop} {w : World} {v : Value} {l : List Int} (h : rdX X w v l) (k : rdX Y w v l) : rdX (fun b => X b ∨ Y b) w v l :=
  ⟨h.1, fun a n c e h0 hk => hk.elim (h.2 a n c e h0) (k.2 a n c e h0)⟩
/-- A reference's buffer as it lies, its rows in no block of X. -/
structure RefX (X : Nat → Prop) (w : World) (p N : Nat) (most : Int) (out : List Int) (v : Value) (L : List (Rec × Value)) : Prop where
  blk : ∃ ov, w.heap[p]? = some (.cells #[.int .i64 most, ov, v] 52 (0, 0)) ∧ rdX X w ov out
  own : w.ownsRow N 33 9 v L.length (encR L)
  px : v.ownBlock ≠ some p
  pN : N ≤ p
  deps : ∀ x ∈ L, rdX X w x.2 x.1.d
abbrev RefE (E : Nat → Prop) (w : World) (p N : Nat) (most : Int) (out : List Int) (v : Value) (L : List (Rec × Value)) : Prop := RefX (fun k => LX p v k ∨ E k) w p N most out v L
section
variable {X : Nat → Prop} {w w' : World} {p N : Nat} {most : Int} {out : List Int} {v : Value} {L : List (Rec × Value)}
theorem RefX.gr' (h : RefX X w p N most out v L) (hg : Gr w w') : RefX X w' p N most out v L := by
  obtain ⟨ov, h1, h2⟩ := h.blk
  exact ⟨⟨ov, hg.blk h1, h2.gr hg⟩, own_gr h.own hg, h.px, h.pN, fun x hx => (h.deps x hx).gr hg⟩
theorem RefX.form (h : RefX X w p N most out v L) : ∃ a c, v = .slice a L.length c ∧ L.length ≤ c := by
  rcases h.own.2 with ⟨rfl, h0⟩ | ⟨g, cap, cur, rfl, _, _, hn, _⟩
  · exact ⟨none, 0, by rw [h0], by omega⟩
  · exact ⟨_, cap, rfl, hn⟩
theorem RefX.lt (h : RefX X w p N most out v L) : ∀ b, LX p v b → N ≤ b ∧ b < w.heap.size := fun b hb => by
  obtain ⟨ov, h1, _⟩ := h.blk
  rcases hb with rfl | hb
  · exact ⟨h.pN, blk_lt h1⟩
  · exact h.own.lt b hb
end
/-- The place of a record. -/
def findI (l : List Rec) (s q : Int) : Int := match l.findIdx? (fun r => decide (r.st = s ∧ r.q = q)) with
  | some i => i
  | none => -1
theorem findI_at {l : List Rec} {s q : Int} {i : Nat} (hi : i < l.length) (h : l[i].st = s ∧ l[i].q = q) (hpre : ∀ j (hj : j < l.length), j < i → ¬ (l[j].st = s ∧ l[j].q = q)) : findI l s q = i := by
  have e : l.findIdx? (fun r => decide (r.st = s ∧ r.q = q)) = some i := by
    rw [List.findIdx?_eq_some_iff_getElem]
    exact ⟨hi, by simpa using h, fun j hj => by have := hpre j (by omega) hj; simpa using this⟩
  unfold findI
  rw [e]
theorem findI_no {l : List Rec} {s q : Int} (h : ∀ j (hj : j < l.length), ¬ (l[j].st = s ∧ l[j].q = q)) : findI l s q = -1 := by
  have e : l.findIdx? (fun r => decide (r.st = s ∧ r.q = q)) = none := by
    rw [List.findIdx?_eq_none_iff]
    intro r hr
    obtain ⟨j, hj, rfl⟩ := List.getElem_of_mem hr
    exact decide_eq_false (h j hj)
  unfold findI
  rw [e]
set_option maxRecDepth 100000 in
set_option maxHeartbeats 4000000 in
theorem find_calls {X : Nat → Prop} (w : World) (p N : Nat) (most : Int) (out : List Int) (v : Value) (L : List (Rec × Value)) (h : RefX X w p N most out v L) (hn : L.length ≤ 1000) (s q : Int) :
    Calls Try.prog 45 #[.pointer (some ⟨p, 0, none⟩), .int .i64 s, .int .i64 q] w fun e w' => e = .returned (.int .i64 (findI (recsOf L) s q)) ∧ w = w' := by
  obtain ⟨ov, hb, _⟩ := h.blk
  obtain ⟨a, c, rfl, hc⟩ := h.form
  have c2 := (cell_of_row w p 2 _ _ _ hb).trans rfl
  have HR := Lib.hid (rdRow_of_own h.own)
  clear h hb
  go_enter Try.func45, Try.ntmps45
  go_wp2_with fail
  go_loopw [7] (fun iv wr => ∃ i : Nat, i ≤ L.length ∧ iv = .int .i64 i ∧ w = wr ∧ Hid (∀ j (hj : j < (recsOf L).length), j < i → ¬ ((recsOf L)[j].st = s ∧ (recsOf L)[j].q = q))) (fun iv _ => L.length - (intOf iv).toNat)
  case atStart => exact ⟨0, Nat.zero_le _, rfl, rfl, Lib.hid (fun j _ h => by omega)⟩
  case round =>
    obtain ⟨i, hi, rfl, rfl, hpre⟩ := hrel
    by_cases hlt : i < L.length
    · have h1 : (0 : Int) ≤ (i : Int) := by omega
      have h2 : (i : Int) < (L.length : Int) := by omega
      have his : i < (recsOf L).length := by rw [recsOf_len]; exact hlt
      obtain ⟨bg, og, cg, eg, _, hrg⟩ := rd_range recL 9 (fun _ => rfl) HR.out (by omega)
      injection eg with eg1 eg2 eg3
      subst eg1
      have c6 := hrg i hlt 6 _ rfl
      have c7 := hrg i hlt 7 _ rfl
      have Hi := Lib.hid (recsOf_get L i his)
      clear hrg eg3
      obtain ⟨x, hx⟩ : ∃ x, L[i] = x := ⟨_, rfl⟩
      rw [hx] at c6 c7 Hi
      clear hx
      by_cases h3 : x.1.st = s
      · have h3' : (x.1.st == s) = true := by simp [h3]
        by_cases h4 : x.1.q = q
        · have h4' : (x.1.q == q) = true := by simp [h4]
          have hf := Lib.hid (findI_at his (by rw [Hi.out]; exact ⟨h3, h4⟩) hpre.out)
          clear h3 h4
          go_wp2_with fail
          go_ret
          rw [hf.out]
          exact ⟨rfl, rfl⟩
        · have h4' : (x.1.q == q) = false := by simp [h4]
          have H4 := Lib.hid h4
          clear h3 h4
          go_wp2_with fail
          go_roundw
          case rel => exact ⟨i + 1, by omega, by go_num, trivial, Lib.hid (fun j hj hji => by
            by_cases e : j = i
            · subst e; rw [Hi.out]; exact fun z => H4.out z.2
            · exact hpre.out j hj (by omega))⟩
          case measure => simp [intOf]; omega
      · have h3' : (x.1.st == s) = false := by simp [h3]
        have H3 := Lib.hid h3
        clear h3
        go_wp2_with fail
        go_roundw
        case rel => exact ⟨i + 1, by omega, by go_num, trivial, Lib.hid (fun j hj hji => by
          by_cases e : j = i
          · subst e; rw [Hi.out]; exact fun z => H3.out z.1
          · exact hpre.out j hj (by omega))⟩
        case measure => simp [intOf]; omega
    · have hno : ¬ (i : Int) < (L.length : Int) := by omega
      have hf := Lib.hid (findI_no (l := recsOf L) (s := s) (q := q) (fun j hj => hpre.out j hj (by rw [recsOf_len] at hj; omega)))
      go_wp2_with fail
      go_ret
      rw [hf.out]
      exact ⟨rfl, rfl⟩
set_option maxRecDepth 100000 in
set_option maxHeartbeats 4000000 in
theorem rdue_calls {X : Nat → Prop} (w : World) (p N : Nat) (most : Int) (out : List Int) (v : Value) (L : List (Rec × Value)) (h : RefX X w p N most out v L) (ho : out.length ≤ 1000000) (r : Rec) (d : Value) (hd : rdRow w 1 d r.d.length (encI r.d)) (hk : r.d.length ≤ 1000000) :
    Calls Try.prog 46 #[.pointer (some ⟨p, 0, none⟩), recV r d] w fun e w' => e = .returned (.bool (decide (Due out r))) ∧ Gr w w' := by
  obtain ⟨ov, hb, hr⟩ := h.blk
  have c1 := (cell_of_row w p 1 _ _ _ hb).trans rfl
  have Hat := Lib.hid (fun W hg => rat_calls ov out r.st W (hr.1.gr hg) ho)
  have Hcv := Lib.hid (fun W hg => rcovers_calls ov d out r.d W (hr.1.gr hg) (hd.gr hg) ho hk)
  have hann := atV_nn out r.st
  have hwr : IntKind.i64.wrap (atV out r.st + 1) = atV out r.st + 1 := wrap_id (by unfold topN at hann; unfold I64; omega)
  have hcs : (decide (Cov out r.d) = false ∧ decide (Due out r) = false) ∨ (decide (Cov out r.d) = true ∧ ((r.q == atV out r.st + 1) = decide (Due out r))) := by
    by_cases e : Cov out r.d
    · right
      refine ⟨decide_eq_true e, ?_⟩
      by_cases e2 : r.q = atV out r.st + 1
      · rw [decide_eq_true (show Due out r from ⟨e2, e⟩)]; simp [e2]
      · rw [decide_eq_false (fun z : Due out r => e2 z.1)]; simp [e2]
    · left; exact ⟨decide_eq_false e, decide_eq_false (fun z => e z.2)⟩
  have hA := recAt_new w r d 33
  have hb1 := keepc (Gr.al Gr.rfl' (.cells #[.int .i64 r.k, .string r.s, .int .i64 r.t, .int .i64 r.v, .int .i64 r.tier, .int .i64 r.c, .int .i64 r.st, .int .i64 r.q, d] 33)) c1
  have hg0 : Gr w (w.alloc (.cells #[.int .i64 r.k, .string r.s, .int .i64 r.t, .int .i64 r.v, .int .i64 r.tier, .int .i64 r.c, .int .i64 r.st, .int .i64 r.q, d] 33)) := Gr.al Gr.rfl' _
  have Hg0 := Lib.hid hg0; have HA := Lib.hid hA; have Hb1 := Lib.hid hb1
  clear h hr hd hann hg0 hA hb1 c1 hb
  unfold recV
  rcases hcs with ⟨h1, h2⟩ | ⟨h1, h2⟩
  all_goals
    rw [h1] at Hcv
    first
      | (have hx : Due out r → decide (Due out r) = false := fun _ => h2; clear hx; rw [h2]; clear h2)
      | (obtain ⟨dd, hdd⟩ : ∃ dd, decide (Due out r) = dd := ⟨_, rfl⟩; rw [hdd] at h2 ⊢; clear hdd)
    go_enter Try.func46, Try.ntmps46
    go_wp2_with fail
    generalize w.alloc (.cells #[.int .i64 r.k, .string r.s, .int .i64 r.t, .int .i64 r.v, .int .i64 r.tier, .int .i64 r.c, .int .i64 r.st, .int .i64 r.q, d] 33) = W0 at *
    have cb := fun g : GrW W0 => keepc g.h Hb1.out
    have cr := fun g : GrW W0 => HA.out.gr g.h
    have cw6 := fun g : GrW W0 => (cr g).2.2.2.2.2.2.1; have cw7 := fun g : GrW W0 => (cr g).2.2.2.2.2.2.2.1; have cw8 := fun g : GrW W0 => (cr g).2.2.2.2.2.2.2.2
    clear cr
    (refine region_gr (by kernel_rfl) (by kernel_rfl) ?_; (repeat (go_big_quiet_step ((first | (go_at_call 17; rename_i g9; refine (Hcv.out _ (Hg0.out.tr g9.h)).mono ?_; rintro e w2 ⟨rfl, hb⟩; exact ⟨rfl, ⟨w2, g9.h.tr hb⟩, rfl⟩))))); refine wpQuiet_nil ?_; intro wq hw9; obtain ⟨g9, e9⟩ := hw9; have hwq := g9.h; rw [← e9] at hwq; clear e9 g9)
    have HG1 := Lib.hid (Hg0.out.tr hwq)
    clear cb cw6 cw7 cw8
    obtain ⟨W1, rfl⟩ : ∃ W, W = wq := ⟨_, rfl⟩
    have cb := fun g : GrW W1 => keepc g.h (keepc hwq Hb1.out)
    have cr := fun g : GrW W1 => (HA.out.gr hwq).gr g.h
    have cw6 := fun g : GrW W1 => (cr g).2.2.2.2.2.2.1; have cw7 := fun g : GrW W1 => (cr g).2.2.2.2.2.2.2.1
    clear cr hwq
    go_wp2_with fail
    (refine region_gr (by kernel_rfl) (by kernel_rfl) ?_; (repeat (go_big_quiet_step ((first | (go_at_call 19; rename_i g9; refine (Hat.out _ (HG1.out.tr g9.h)).mono ?_; rintro e w2 ⟨rfl, hb⟩; exact ⟨rfl, ⟨w2, g9.h.tr hb⟩, rfl⟩))))); refine wpQuiet_nil ?_; intro wq hw9; obtain ⟨g9, e9⟩ := hw9; have hwq := g9.h; rw [← e9] at hwq; clear e9 g9)
    have HG := Lib.hid (HG1.out.tr hwq)
    clear cb cw6 cw7 hwq
    go_wp2_with fail
    go_ret
    exact ⟨rfl, HG.out⟩
set_option maxHeartbeats 1000000 in
theorem rnew_calls (E : Nat → Prop) (room : Int) (v : Value) (l : List Int) (w : World) (hv : rdRow w 1 v l.length (encI l)) (hk : l.length ≤ 1000000) (hE : ∀ k, E k → k < w.heap.size) :
    Calls Try.prog 24 #[.int .i64 room, v] w fun e w' => ∃ p, e = .returned (.pointer (some ⟨p, 0, none⟩)) ∧ w.heap.size ≤ p ∧ RefE E w' p w.heap.size (roomOf room) (plainV l) (.slice none 0 0) [] ∧ Gr w w' := by
  have H := Lib.hid (rplain_calls v l w hv hk)
  clear hv
  have hcs : (room < 0 ∧ roomOf room = 0) ∨ (¬ room < 0 ∧ 400 < room ∧ roomOf room = 400) ∨ (¬ room < 0 ∧ ¬ 400 < room ∧ roomOf room = room) := by
    unfold roomOf
    rw [mn_eq, mx_eq]
    omega
  rcases hcs with ⟨h1, h2⟩ | ⟨h1, h3, h2⟩ | ⟨h1, h3, h2⟩
  all_goals
    rw [h2]
    clear h2
    go_enter Try.func24, Try.ntmps24
    go_wp2_with fail
    refine H.out.mono ?_
    rintro e w1 ⟨v1, rfl, ho, hb⟩
    have Ho1 := Lib.hid (rdX_below (rdRow_of_own ho)); have Ho2 := Lib.hid (own_rdX ho); have Hb := Lib.hid hb
    obtain ⟨a1, c1, rfl⟩ := own_slice ho
    clear hb ho
    go_wp2_with fail
    go_ret
    refine ⟨w1.heap.size, rfl, Hb.out.size, ⟨⟨_, heap_alloc_new w1 _, ((Ho1.out.or Ho2.out).gr (Gr.al Gr.rfl' _)).mono (fun k hk => ?_)⟩, World.ownsRow_nil _ _ _ _, fun z => by simp [Value.ownBlock] at z, Hb.out.size, fun x hx => by simp at hx⟩, Gr.al Hb.out _⟩
    rcases hk with hk | hk
    · rcases hk with rfl | hk
      · exact .inl (Nat.le_refl _)
      · simp [Value.ownBlock] at hk
    · exact .inr (hE k hk)
end Go.Proofs.Ytnneebdcaefgoaa
