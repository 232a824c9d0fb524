/- The chapter's examples: what is told of them. -/
import Derived.Test.YtnneebdcaefgoaaCbB
namespace Go.Proofs.Ytnneebdcaefgoaa
open Go.RowKit Go.Maps

def r21 : Rec := recOf 0 2 [1]
def r11 : Rec := recOf 0 1 []
def r32 : Rec := recOf 0 3 [2]
def eb0 : Buf := bufNew 5 []
def eb1 : Buf := putB eb0 r21
def eb2 : Buf := putB eb1 r11
def eb3 : Buf := takeB eb2 0 r11
def eb4 : Buf := takeB eb3 0 r21
def ec0 : Buf := bufNew 0 []
theorem ok21 : RecOk r21 := by decide
theorem ok11 : RecOk r11 := by decide
theorem ok32 : RecOk r32 := by decide
theorem off1 : offN eb0 r21 = 0 := by decide
theorem off2 : offN eb1 r11 = 0 := by decide
theorem off3 : offN eb4 r11 = 1 := by decide
theorem off4 : offN ec0 r21 = 2 := by decide
theorem off5 : offN ec0 r11 = 0 := by decide
theorem nx1 : nextAll eb1 = none := by rfl
theorem nx2 : nextAll eb2 = some (0, r11) := by rfl
theorem nx3 : nextAll eb3 = some (0, r21) := by rfl
theorem BufX.empty {X Y : Nat → Prop} {w : World} {p : Nat} {mb : Option Nat} {B : Buf} (h : BufX X w p mb B) (h1 : B.out = []) (h2 : ∀ s q, B.f s q = none) : BufX Y w p mb B := by
  obtain ⟨a1, a2, ov, fv, a3, a4, a5, a6⟩ := h
  exact ⟨a1, a2, ov, fv, a3, ⟨a4.1, fun a n c e h0 => absurd h0 (by rw [h1]; decide)⟩, a5, fun s q => ⟨(a6 s q).1, fun r e => by rw [h2] at e; cases e⟩⟩
theorem BufE.of {w : World} {p : Nat} {mb : Option Nat} {B : Buf} (h : BufAt w p mb B) : BufE (fun _ => False) w p mb B := BufX.wid h (fun k hk => .inl (hk.elim id False.elim))
/-- An offer that is held. -/
theorem offer_held {w : World} {p : Nat} {mb : Option Nat} {B : Buf} (h : BufAt w p mb B) (ho : B.out.length ≤ 1000000) (hn : B.n ≤ 1000000) (r : Rec) (d : Value) (hd : rdX (BX p mb) w d r.d) (hk : r.d.length ≤ 1000000) (h0 : offN B r = 0) :
    Calls Try.prog 11 #[.pointer (some ⟨p, 0, none⟩), recV r d] w fun e w' => e = .returned (.int .i64 0) ∧ ∃ mb', BufAt w' p mb' (putB B r) ∧ Bt (BX p mb) w w' ∧ SameMap w mb mb' :=
  (offer_calls (fun _ => False) w p mb B (BufE.of h) (fun _ z => z.elim) ho hn r d hd hk).mono fun e w' ⟨he, mb', h1, h2, h3, _⟩ => by
    replace h1 := h1.at
    unfold offB at h1
    rw [if_pos h0] at h1
    exact ⟨by rw [he, h0], mb', h1, h2, h3⟩
theorem offer_not {w : World} {p : Nat} {mb : Option Nat} {B : Buf} (h : BufAt w p mb B) (ho : B.out.length ≤ 1000000) (hn : B.n ≤ 1000000) (r : Rec) (d : Value) (hd : rdX (BX p mb) w d r.d) (hk : r.d.length ≤ 1000000) {n : Int} (h0 : offN B r = n) (hn0 : n ≠ 0) :
    Calls Try.prog 11 #[.pointer (some ⟨p, 0, none⟩), recV r d] w fun e w' => e = .returned (.int .i64 n) ∧ Gr w w' :=
  (offer_calls (fun _ => False) w p mb B (BufE.of h) (fun _ z => z.elim) ho hn r d hd hk).mono fun e w' ⟨he, mb', h1, h2, h3, h4⟩ => ⟨by rw [he, h0], (h4 (by rw [h0]; exact hn0)).1⟩
/-- A row of the law's own. -/
theorem rdX_new (w : World) (l : List Int) (X : Nat → Prop) (hX : ¬ X w.heap.size) (T : TypeId) : rdX X (w.alloc (.cells (l.map (Value.int .i64)).toArray T)) (.slice (some ⟨w.heap.size, 0, none⟩) l.length l.length) l := by
  refine ⟨⟨by simp [encI_map], some ⟨w.heap.size, 0, none⟩, l.length, rfl, Nat.le_refl _, fun _ => ⟨w.heap.size, 0, rfl, fun j u hu => ?_⟩⟩, fun a n c e h0 hk => ?_⟩
  · refine cells_at w.heap.size rfl j u ?_
    rw [encI_map] at hu; simpa using hu
  · injection e with e1
    injection e1 with e1
    rw [← e1] at hk
    exact hX hk
theorem bx_lt {X : Nat → Prop} {w : World} {p : Nat} {mb : Option Nat} {B : Buf} (h : BufX X w p mb B) {k : Nat} (hk : w.heap.size ≤ k) : ¬ BX p mb k := fun z => by
  rcases z with z | z
  · have := h.1; omega
  · have := (h.2.1 _ z).1; omega
theorem newer {w' : World} {p N : Nat} {mb mb' : Option Nat} (h : ∀ k, BX p mb k → N ≤ k) (hm : SameMap w' mb mb') (hN : N ≤ w'.heap.size) : ∀ k, BX p mb' k → N ≤ k := fun k hk => by
  rcases hm with rfl | ⟨_, b, rfl, hb⟩
  · exact h k hk
  · rcases hk with hk | hk
    · exact h k (.inl hk)
    · injection hk with hk; omega
/-- What is not the buffer's stays, whatever it does. -/
theorem keepA {w w' : World} {p A : Nat} {mb mb' : Option Nat} {o : Obj} (hb : Bt (BX p mb) w w') (hm : SameMap w mb mb') (hA : ¬ BX p mb A) (h : w.heap[A]? = some o) : w'.heap[A]? = some o ∧ ¬ BX p mb' A := by
  have hl := blk_lt h
  refine ⟨(hb.block A hl hA).trans h, fun z => ?_⟩
  rcases hm with rfl | ⟨_, b, rfl, hz⟩
  · exact hA z
  · rcases z with z | z
    · exact hA (.inl z)
    · injection z with z; omega
theorem put_k {B : Buf} {r : Rec} (h : ∀ s q r, B.f s q = some r → r.d.length ≤ 1000000) (hr : r.d.length ≤ 1000000) : ∀ s q r', (putB B r).f s q = some r' → r'.d.length ≤ 1000000 := fun s q r' e => by
  have e' : (if s = r.st ∧ q = r.q then some r else B.f s q) = some r' := e
  split at e'
  · injection e' with e'; rw [← e']; exact hr
  · exact h _ _ _ e'
theorem put_own {B : Buf} {r : Rec} (h : Own B) : Own (putB B r) := fun s q r' e => by
  have e' : (if s = r.st ∧ q = r.q then some r else B.f s q) = some r' := e
  split at e'
  · rename_i hc; injection e' with e'; rw [← e']; exact ⟨hc.1.symm, hc.2.symm⟩
  · exact h _ _ _ e'
theorem take_f {B : Buf} {s : Int} {r : Rec} {s' q' : Int} {r' : Rec} (e : (takeB B s r).f s' q' = some r') : B.f s' q' = some r' := by
  have e' : (if s' = s ∧ q' = r.q then none else B.f s' q') = some r' := e
  split at e'
  · cases e'
  · exact e'
theorem take_k {B : Buf} {s : Int} {r : Rec} (h : ∀ s q r, B.f s q = some r → r.d.length ≤ 1000000) : ∀ s' q r', (takeB B s r).f s' q = some r' → r'.d.length ≤ 1000000 := fun _ _ _ e => h _ _ _ (take_f e)
theorem take_own {B : Buf} {s : Int} {r : Rec} (h : Own B) : Own (takeB B s r) := fun _ _ _ e => h _ _ _ (take_f e)
theorem eb0_k : ∀ s q r, eb0.f s q = some r → r.d.length ≤ 1000000 := fun s q r e => by cases e
theorem eb0_own : Own eb0 := fun s q r e => by cases e
theorem eb1_k : ∀ s q r, eb1.f s q = some r → r.d.length ≤ 1000000 := put_k (r := r21) eb0_k (by decide)
theorem eb1_own : Own eb1 := put_own eb0_own
theorem eb2_k : ∀ s q r, eb2.f s q = some r → r.d.length ≤ 1000000 := put_k (r := r11) eb1_k (by decide)
theorem eb2_own : Own eb2 := put_own eb1_own
theorem eb3_k : ∀ s q r, eb3.f s q = some r → r.d.length ≤ 1000000 := take_k (s := 0) (r := r11) eb2_k
theorem eb3_own : Own eb3 := take_own eb2_own
set_option maxRecDepth 100000 in
set_option maxHeartbeats 4000000 in
theorem awake_calls (w : World) : Calls Try.prog 8 #[] w fun e w' => e = .returned (.bool true) ∧ Gr w w' := by
  have hnil : ∀ W, rdRow W 1 (.slice none 0 0) ([] : List Int).length (encI []) := fun W => ⟨rfl, none, 0, rfl, Nat.le_refl _, fun h => by simp at h⟩
  have Hnew := Lib.hid (fun room W => new_calls room (.slice none 0 0) [] W (hnil W) (by decide))
  clear hnil
  go_enter Try.func8, Try.ntmps8
  go_wp2_with fail
  refine (Hnew.out 5 _).mono ?_
  rintro e w1 ⟨p1, rfl, hp1, hB1, hg1⟩
  have HB1 := Lib.hid hB1; have G1 := Lib.hid hg1
  have hp1w := Lib.hid (hB1.1)
  clear hB1 hg1
  go_wp2_with fail
  refine (Hnew.out 0 _).mono ?_
  rintro e w2 ⟨p2, rfl, hp2, hB2, hg2⟩
  have G2 := Lib.hid (G1.out.tr hg2)
  have HB := Lib.hid (HB1.out.gr' hg2)
  have hd12 : ∀ k, BX p1 none k → ¬ BX p2 none k := fun k h1 h2 => by
    have h3 := hp1w.out
    rcases h1 with rfl | h1
    · rcases h2 with rfl | h2
      · omega
      · cases h2
    · cases h1
  have HC := Lib.hid (show BufX (fun k => BX p1 none k ∨ BX p2 none k) w2 p2 none ec0 from hB2.empty rfl (fun _ _ => rfl))
  have HD := Lib.hid hd12
  have HN := Lib.hid (show ∀ k, BX p1 none k → w.heap.size ≤ k from fun k hk => by rcases hk with rfl | hk; exact hp1; cases hk)
  have HN2 := Lib.hid (show ∀ k, BX p2 none k → w.heap.size ≤ k from fun k hk => by rcases hk with rfl | hk; exact Nat.le_trans G1.out.size hp2; cases hk)
  clear hB2 hg2 hp2 hd12 HB1 hp1w G1
  go_wp2_with fail
  -- x := b.Offer(record(0, 2, [1]))
  have hr := rdX_new w2 [1] (BX p1 none) (bx_lt HB.out (Nat.le_refl _)) 3
  refine (record_calls 0 2 _ 1 1 [1] _).mono ?_
  rintro e w3 ⟨rfl, hg3⟩
  have hg3' := (Gr.al Gr.rfl' _).tr hg3
  have Hr := Lib.hid (hr.gr hg3); have HB3 := Lib.hid (HB.out.gr' hg3'); have HC3 := Lib.hid (HC.out.gr' hg3'); have G3 := Lib.hid (G2.out.tr hg3')
  clear hr hg3 hg3' HB HC G2
  go_wp2_with fail
  refine (offer_held HB3.out (by decide) (by decide) r21 _ Hr.out (by decide) off1).mono ?_
  rintro e w4 ⟨rfl, mb4, hB4, hT4, hM4⟩
  obtain ⟨hC4, hD4⟩ := other HC3.out hT4 hM4 HD.out
  have HB4 := Lib.hid (show BufAt w4 p1 mb4 eb1 from hB4); have HC4 := Lib.hid hC4; have HD4 := Lib.hid hD4; have G4 := Lib.hid (hT4.gr G3.out HN.out); have HN4 := Lib.hid (newer HN.out hM4 G3.out.size)
  clear hB4 hT4 hM4 hC4 hD4 HB3 HC3 G3 HD Hr HN
  go_wp2_with fail
  -- _, y := b.Next()
  refine (next_calls (fun _ => False) w4 p1 mb4 eb1 (BufE.of HB4.out) (fun _ z => z.elim) (by decide) eb1_k eb1_own).mono ?_
  intro e w5 hN5
  have hN5' := next_is hN5
  rw [nx1] at hN5'
  obtain ⟨rfl, hg5⟩ := hN5'
  have HB5 := Lib.hid (HB4.out.gr' hg5); have HC5 := Lib.hid (HC4.out.gr' hg5); have G5 := Lib.hid (G4.out.tr hg5)
  clear hN5 hg5 HB4 HC4 G4
  go_wp2_with (refine wpList_store_blk rfl 33 (.tmp 4) (.tmp 25) rfl w5.heap.size (recC noRec (.slice none 0 0)) rfl rfl _ _ (heap_alloc_new w5 _) rfl info_rec (one_rec _ _ rfl) (fun w6 b6 g6 s6 => ?_))
  have hg6 : Gr w5 w6 := gr_new (Gr.al Gr.rfl' (.cells #[.int .i64 0, .string ⟨#[]⟩, .int .i64 0, .int .i64 0, .int .i64 0, .int .i64 0, .int .i64 0, .int .i64 0, .slice none 0 0] 33)) g6 (Nat.le_refl _)
  have HB6 := Lib.hid (HB5.out.gr' hg6); have HC6 := Lib.hid (HC5.out.gr' hg6); have G6 := Lib.hid (G5.out.tr hg6)
  clear HB5 HC5 G5 b6 g6 s6 hg6
  -- b.Offer(record(0, 1, nil))
  refine (record_calls 0 1 none 0 0 [] _).mono ?_
  rintro e w7 ⟨rfl, hg7⟩
  have HB7 := Lib.hid (HB6.out.gr' hg7); have HC7 := Lib.hid (HC6.out.gr' hg7); have G7 := Lib.hid (G6.out.tr hg7)
  clear HB6 HC6 G6 hg7
  go_wp2_with fail
  refine (offer_held HB7.out (by decide) (by decide) r11 _ rdX_nil (by decide) off2).mono ?_
  rintro e w8 ⟨rfl, mb8, hB8, hT8, hM8⟩
  obtain ⟨hC8, hD8⟩ := other HC7.out hT8 hM8 HD4.out
  have HB8 := Lib.hid (show BufAt w8 p1 mb8 eb2 from hB8); have HC8 := Lib.hid hC8; have HD8 := Lib.hid hD8; have G8 := Lib.hid (hT8.gr G7.out HN4.out); have HN8 := Lib.hid (newer HN4.out hM8 G7.out.size)
  clear hB8 hT8 hM8 hC8 hD8 HB7 HC7 G7 HD4 HN4
  go_wp2_with fail
  -- r, _ := b.Next()
  refine (next_calls (fun _ => False) w8 p1 mb8 eb2 (BufE.of HB8.out) (fun _ z => z.elim) (by decide) eb2_k eb2_own).mono ?_
  intro e w9 hN9
  have hN9' := next_is hN9
  rw [nx2] at hN9'
  obtain ⟨d9, rfl, hd9, hB9, hT9⟩ := hN9'
  have hd91 := rdX_one hd9
  obtain ⟨hC9, hD9⟩ := other HC8.out hT9 (.inl rfl) HD8.out
  have HB9 := Lib.hid (show BufAt w9 p1 mb8 eb3 from hB9.at); have HC9 := Lib.hid hC9; have G9 := Lib.hid (hT9.gr G8.out HN8.out); have Hd91 := Lib.hid hd91
  clear hN9 hd9 hd91 hB9 hT9 hC9 hD9 HB8 HC8 G8
  go_wp2_with (refine wpList_store_blk rfl 33 (.tmp 6) (.tmp 33) rfl w9.heap.size (recC r11 d9) rfl rfl _ _ (heap_alloc_new w9 _) rfl info_rec (one_rec _ _ Hd91.out) (fun w10 b10 g10 s10 => ?_))
  have hg10 : Gr w9 w10 := gr_new (Gr.al Gr.rfl' (.cells #[.int .i64 0, .string ⟨#[]⟩, .int .i64 0, .int .i64 0, .int .i64 0, .int .i64 0, .int .i64 0, .int .i64 0, .slice none 0 0] 33)) g10 (Nat.le_refl _)
  obtain ⟨A6, eA6⟩ : ∃ A, w9.heap.size = A := ⟨_, rfl⟩
  have hX6 := bx_lt HB9.out (Nat.le_of_eq eA6)
  rw [eA6] at b10 ⊢
  have HB10 := Lib.hid (HB9.out.gr' hg10); have HC10 := Lib.hid (HC9.out.gr' hg10); have G10 := Lib.hid (G9.out.tr hg10); have B10 := Lib.hid b10; have HX6 := Lib.hid hX6
  clear HB9 HC9 G9 b10 g10 s10 hg10 hX6 eA6
  -- s, z := b.Next()
  refine (next_calls (fun _ => False) w10 p1 mb8 eb3 (BufE.of HB10.out) (fun _ z => z.elim) (by decide) eb3_k eb3_own).mono ?_
  intro e w11 hN11
  have hN11' := next_is hN11
  rw [nx3] at hN11'
  obtain ⟨d11, rfl, hd11, hB11, hT11⟩ := hN11'
  have hd111 := rdX_one hd11
  obtain ⟨hC11, hD11⟩ := other HC10.out hT11 (.inl rfl) HD8.out
  have B11 := Lib.hid (keepA hT11 (.inl rfl) HX6.out B10.out).1
  have HB11 := Lib.hid (show BufAt w11 p1 mb8 eb4 from hB11.at); have HC11 := Lib.hid hC11; have G11 := Lib.hid (hT11.gr G10.out HN8.out); have Hd111 := Lib.hid hd111
  clear hN11 hd11 hd111 hB11 hT11 hC11 hD11 HB10 HC10 G10 B10
  go_wp2_with (refine wpList_store_blk rfl 33 (.tmp 8) (.tmp 38) rfl w11.heap.size (recC r21 d11) rfl rfl _ _ (heap_alloc_new w11 _) rfl info_rec (one_rec _ _ Hd111.out) (fun w12 b12 g12 s12 => ?_); (have hg12 : Gr w11 w12 := gr_new (Gr.al Gr.rfl' (.cells #[.int .i64 0, .string ⟨#[]⟩, .int .i64 0, .int .i64 0, .int .i64 0, .int .i64 0, .int .i64 0, .int .i64 0, .slice none 0 0] 33)) g12 (Nat.le_refl _)); have c67 := cell_of_row _ A6 7 _ _ _ (hg12.blk B11.out); have c87 := cell_of_row _ _ 7 _ _ _ b12; rw [show (recC r11 d9)[7]? = some (.int .i64 1) from rfl] at c67; rw [show (recC r21 d11)[7]? = some (.int .i64 2) from rfl] at c87)
  have HB12 := Lib.hid (HB11.out.gr' hg12); have HC12 := Lib.hid (HC11.out.gr' hg12); have G12 := Lib.hid (G11.out.tr hg12)
  clear HB11 HC11 G11 b12 g12 s12 hg12 c67 c87 B11
  refine (record_calls 0 1 none 0 0 [] _).mono ?_
  rintro e w13 ⟨rfl, hg13⟩
  have HB13 := Lib.hid (HB12.out.gr' hg13); have HC13 := Lib.hid (HC12.out.gr' hg13); have G13 := Lib.hid (G12.out.tr hg13)
  clear HB12 HC12 G12 hg13
  go_wp2_with fail
  refine (offer_not HB13.out (by decide) (by decide) r11 _ rdX_nil (by decide) off3 (by decide)).mono ?_
  rintro e w14 ⟨rfl, hg14⟩
  have HC14 := Lib.hid ((HC13.out.gr' hg14).wid (Y := BX p2 none) (fun k hk => .inl (.inr hk))); have G14 := Lib.hid (G13.out.tr hg14)
  clear HB13 HC13 G13 hg14
  go_wp2_with fail
  -- c.Offer(record(0, 2, [1]))
  have hr := rdX_new w14 [1] (BX p2 none) (bx_lt HC14.out (Nat.le_refl _)) 3
  refine (record_calls 0 2 _ 1 1 [1] _).mono ?_
  rintro e w15 ⟨rfl, hg15⟩
  have hg15' := (Gr.al Gr.rfl' _).tr hg15
  have Hr := Lib.hid (hr.gr hg15); have HC15 := Lib.hid (HC14.out.gr' hg15'); have G15 := Lib.hid (G14.out.tr hg15')
  clear hr hg15 hg15' HC14 G14
  go_wp2_with fail
  refine (offer_not (B := ec0) HC15.out (by decide) (by decide) r21 _ Hr.out (by decide) off4 (by decide)).mono ?_
  rintro e w16 ⟨rfl, hg16⟩
  have HC16 := Lib.hid (HC15.out.gr' hg16); have G16 := Lib.hid (G15.out.tr hg16)
  clear Hr HC15 G15 hg16
  go_wp2_with fail
  -- c.Offer(record(0, 1, nil))
  refine (record_calls 0 1 none 0 0 [] _).mono ?_
  rintro e w17 ⟨rfl, hg17⟩
  have HC17 := Lib.hid (HC16.out.gr' hg17); have G17 := Lib.hid (G16.out.tr hg17)
  clear HC16 G16 hg17
  go_wp2_with fail
  refine (offer_held (B := ec0) HC17.out (by decide) (by decide) r11 _ rdX_nil (by decide) off5).mono ?_
  rintro e w18 ⟨rfl, mb18, _, hT18, _⟩
  have G18 := Lib.hid (hT18.gr G17.out HN2.out)
  clear hT18 HC17 G17
  go_wp2_with fail
  go_ret
  exact ⟨rfl, G18.out⟩
end Go.Proofs.Ytnneebdcaefgoaa
