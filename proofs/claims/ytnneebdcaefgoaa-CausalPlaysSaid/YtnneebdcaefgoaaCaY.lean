/- The buffer: a map is made, a record is put, one is taken; what Offer answers. -/
import Derived.Test.YtnneebdcaefgoaaCaW
namespace Go.Proofs.Ytnneebdcaefgoaa
open Go.RowKit Go.Maps

theorem rdX.wid {X Y : Nat → Prop} {w : World} {v : Value} {l : List Int} (h : rdX X w v l) (hy : ∀ k, Y k → X k ∨ w.heap.size ≤ k) : rdX Y w v l :=
  ⟨h.1, fun a n c e h0 hk => (hy _ hk).elim (fun hx => h.2 a n c e h0 hx) (fun hx => (rdX_below h.1).2 a n c e h0 hx)⟩
theorem own_rdX {w : World} {base e : Nat} {v : Value} {l : List Int} (h : w.ownsRow base e 1 v l.length (encI l)) : rdX (fun k => k < base) w v l := by
  refine ⟨rdRow_of_own h, fun a n c ev h0 hk => ?_⟩
  rcases h.2 with ⟨hv, _⟩ | ⟨g, cap, cur, hv, hb, _⟩
  · rw [hv] at ev; cases ev
  · rw [hv] at ev
    injection ev with e1
    injection e1 with e1
    rw [← e1] at hk
    have hk' : g < base := hk
    omega
theorem rdX_set {X : Nat → Prop} {w : World} {v : Value} {l : List Int} (h : rdX X w v l) {A o : Nat} {u : Value} (hu : w.cell? ⟨A, o, none⟩ = some u) (hne : ∀ i, u ≠ .int .i64 i) (x : Value) : rdX X (w.setCell ⟨A, o, none⟩ x) v l := by
  obtain ⟨⟨h1, a, c, e, h2, h3⟩, h4⟩ := h
  refine ⟨⟨h1, a, c, e, h2, fun h0 => ?_⟩, h4⟩
  obtain ⟨b, o', ea, hc⟩ := h3 h0
  refine ⟨b, o', ea, fun j u' hu' => ?_⟩
  rw [World.cell?_setCell_other]
  · exact hc j u' hu'
  · intro z
    have h5 := hc j u' hu'
    rw [← z, hu] at h5
    injection h5 with h5
    obtain ⟨i, _, hi⟩ : ∃ i, i ∈ l ∧ u' = Value.int .i64 i := by simpa [encI] using List.mem_of_getElem? hu'
    exact hne i (h5.trans hi)
theorem BufX.wid {X : Nat → Prop} {w : World} {p : Nat} {mb : Option Nat} {B : Buf} (h : BufX X w p mb B) {Y : Nat → Prop} (hy : ∀ k, Y k → X k ∨ w.heap.size ≤ k) : BufX Y w p mb B := by
  obtain ⟨h1, h2, ov, fv, h3, h4, h5, h6⟩ := h
  exact ⟨h1, h2, ov, fv, h3, h4.wid hy, h5, fun s q => ⟨(h6 s q).1, fun r e => by obtain ⟨d, e1, e2⟩ := (h6 s q).2 r e; exact ⟨d, e1, e2.wid hy⟩⟩⟩
/-- Some blocks have turned in which nothing of the buffer's lies. -/
theorem BufX.bt {X : Nat → Prop} {w w' : World} {p : Nat} {mb : Option Nat} {B : Buf} (h : BufX X w p mb B) {Y : Nat → Prop} (hb : Bt Y w w') (hy : ∀ k, Y k → X k) (hn : ∀ k, Y k → ¬ BX p mb k) : BufX X w' p mb B := by
  obtain ⟨h1, h2, ov, fv, h3, h4, h5, h6⟩ := h
  refine ⟨Nat.lt_of_lt_of_le h1 hb.size, fun b e => ⟨Nat.lt_of_lt_of_le (h2 b e).1 hb.size, (h2 b e).2⟩, ov, fv, (hb.block p h1 (fun e => hn _ e (.inl rfl))).trans h3, h4.bt hb hy, ?_, fun s q => ⟨(h6 s q).1, fun r e => ?_⟩⟩
  · rcases h5 with h5 | ⟨b, D, e, ⟨es, clock, hbk, hrest⟩, hh⟩
    · exact .inl h5
    · exact .inr ⟨b, D, e, ⟨es, clock, (hb.block b (h2 b e).1 (fun z => hn _ z (.inr e))).trans hbk, hrest⟩, hh⟩
  · obtain ⟨d, e1, e2⟩ := (h6 s q).2 r e
    exact ⟨d, e1, e2.bt hb hy⟩
theorem BufX.gr' {X : Nat → Prop} {w w' : World} {p : Nat} {mb : Option Nat} {B : Buf} (h : BufX X w p mb B) (hg : Gr w w') : BufX X w' p mb B :=
  h.bt (Y := fun _ => False) (.of hg) (fun _ hk => hk.elim) (fun _ hk => hk.elim)
theorem BufX.at {X : Nat → Prop} {w : World} {p : Nat} {mb : Option Nat} {B : Buf} (h : BufX X w p mb B) (hX : ∀ k, BX p mb k → X k) : BufAt w p mb B := h.wid (fun k hk => .inl (hX k hk))
theorem BufX.set {X : Nat → Prop} {w : World} {p : Nat} {mb : Option Nat} {B : Buf} (h : BufX X w p mb B) {A o : Nat} {u : Value} (hu : w.cell? ⟨A, o, none⟩ = some u) (hne : ∀ i, u ≠ .int .i64 i) (hA : ¬ BX p mb A) (x : Value) : BufX X (w.setCell ⟨A, o, none⟩ x) p mb B := by
  obtain ⟨h1, h2, ov, fv, h3, h4, h5, h6⟩ := h
  have hb : ∀ k, k ≠ A → (w.setCell ⟨A, o, none⟩ x).heap[k]? = w.heap[k]? := fun k hk => heap_setCell_other w _ k x hk
  have hz : (w.setCell ⟨A, o, none⟩ x).heap.size = w.heap.size := by simp [World.setCell]
  refine ⟨by rw [hz]; exact h1, fun b e => by rw [hz]; exact h2 b e, ov, fv, (hb p (fun e => hA (.inl e.symm))).trans h3, rdX_set h4 hu hne x, ?_, fun s q => ⟨(h6 s q).1, fun r e => ?_⟩⟩
  · rcases h5 with h5 | ⟨b, D, e, ⟨es, clock, hbk, hrest⟩, hh⟩
    · exact .inl h5
    · exact .inr ⟨b, D, e, ⟨es, clock, (hb b (fun z => hA (.inr (by rw [← z]; exact e)))).trans hbk, hrest⟩, hh⟩
  · obtain ⟨d, e1, e2⟩ := (h6 s q).2 r e
    exact ⟨d, e1, rdX_set e2 hu hne x⟩
theorem Bt.new {X : Nat → Prop} {w a b : World} {A : Nat} (h : Bt X w a) (hg : a.grownBy b (some A)) (hA : w.heap.size ≤ A) : Bt X w b :=
  ⟨hg.os.trans h.os, hg.tape.trans h.tape, hg.output.trans h.output, Nat.le_trans h.size hg.size, fun k hk hx => (hg.block k (Nat.lt_of_lt_of_le hk h.size) (fun e => by injection e with e; omega)).trans (h.block k hk hx)⟩
theorem grown_set (w : World) (A o : Nat) (x : Value) : w.grownBy (w.setCell ⟨A, o, none⟩ x) (some A) :=
  ⟨rfl, rfl, rfl, by simp [World.setCell], fun k _ hne => heap_setCell_other w _ k x (fun e => hne (by rw [e]))⟩
theorem map_none {f : Int → Int → Option Value} {w : World} {n : Nat} (h : MapIs w none f n) : n = 0 ∧ ∀ s q, f s q = none := by
  rcases h with ⟨_, h⟩ | ⟨b, D, e, _⟩
  · exact h
  · cases e
theorem BufX.made {X : Nat → Prop} {w : World} {p : Nat} {B : Buf} (h : BufX X w p none B) (hX : ∀ k, BX p none k → X k) :
    BufX (fun k => X k ∨ k = w.heap.size) ((w.alloc (.map #[] 0)).setCell ⟨p, 2, none⟩ (.map (some w.heap.size))) p (some w.heap.size) B ∧ Bt (BX p none) w ((w.alloc (.map #[] 0)).setCell ⟨p, 2, none⟩ (.map (some w.heap.size))) := by
  obtain ⟨h1, _, ov, fv, h3, h4, h5, h6⟩ := h
  obtain ⟨hn, hf⟩ := map_none h5
  have hz : (w.alloc (.map #[] 0)).heap.size = w.heap.size + 1 := by simp
  have hg : (w.alloc (.map #[] 0)).grownBy ((w.alloc (.map #[] 0)).setCell ⟨p, 2, none⟩ (.map (some w.heap.size))) (some p) :=
    ⟨rfl, rfl, rfl, by simp [World.setCell], fun k hk hne => heap_setCell_other _ _ k _ (fun e => hne (by rw [e]))⟩
  have hG : Gr w (w.alloc (.map #[] 0)) := Gr.al Gr.rfl' _
  have hb0 : Bt (BX p none) w ((w.alloc (.map #[] 0)).setCell ⟨p, 2, none⟩ (.map (some w.heap.size))) := (Bt.of hG).tr (Bt.row hg (.inl rfl))
  refine ⟨⟨Nat.lt_of_lt_of_le h1 hb0.size, fun b e => ?_, ov, fun _ _ => none, ?_, ?_, ?_, fun s q => ⟨fun _ => rfl, fun r e => ?_⟩⟩, hb0⟩
  · injection e with e
    subst e
    exact ⟨by simp [World.setCell], by omega⟩
  · rw [heap_setCell_same _ p 2 _ _ _ (hG.blk h3)]; rfl
  · exact (h4.wid (Y := fun k => X k ∨ k = w.heap.size) (fun k hk => hk.imp id (fun e => by omega))).bt hb0 (fun k hk => .inl (hX k hk))
  · have := (MapIs.made w).kept hg (fun b e => by injection e with e; subst e; intro z; injection z with z; omega)
    rw [hn]; exact this
  · obtain ⟨d, e1, _⟩ := (h6 s q).2 r e
    rw [hf] at e1; cases e1
def putF (f : Int → Int → Option Rec) (s q : Int) (x : Option Rec) (s' q' : Int) : Option Rec := if s' = s ∧ q' = q then x else f s' q'
def putB (B : Buf) (r : Rec) : Buf := { B with f := putF B.f r.st r.q (some r), n := B.n + 1 }
theorem BufX.put {X : Nat → Prop} {w : World} {p b : Nat} {B : Buf} (h : BufX X w p (some b) B) (hX : ∀ k, BX p (some b) k → X k) (hn : B.n < maxLen) {r : Rec} {d : Value} (hs : I64 r.st) (hq : I64 r.q) (hf : B.f r.st r.q = none) (hd : rdX X w d r.d) :
    ∃ w', (Instr.mapUpdate 54 (.map (some b)) (kv r.st r.q) (recV r d)).run Try.prog w = .ok () w' ∧ BufX X w' p (some b) (putB B r) ∧ Bt (BX p (some b)) w w' ∧ w.grownBy w' (some b) := by
  obtain ⟨h1, h2, ov, fv, h3, h4, h5, h6⟩ := h
  obtain ⟨w', hrun, hm, hg⟩ := h5.store hn hs hq (recV r d) ((h6 _ _).1 hf)
  have hb0 : Bt (BX p (some b)) w w' := Bt.row hg (.inr rfl)
  obtain ⟨hb1, hb2⟩ := h2 b rfl
  refine ⟨w', hrun, ⟨Nat.lt_of_lt_of_le h1 hb0.size, fun b' e => ?_, ov, _, ?_, h4.bt hb0 hX, hm, fun s q => ?_⟩, hb0, hg⟩
  · injection e with e
    subst e
    exact ⟨Nat.lt_of_lt_of_le hb1 hb0.size, hb2⟩
  · exact blk_far hg h3 (fun e => hb2 e.symm)
  · have hf1 : (putB B r).f s q = if s = r.st ∧ q = r.q then some r else B.f s q := rfl
    have hf2 : setM fv r.st r.q (some (recV r d)) s q = if s = r.st ∧ q = r.q then some (recV r d) else fv s q := rfl
    rw [hf1, hf2]
    by_cases e : s = r.st ∧ q = r.q
    · rw [if_pos e, if_pos e]
      exact ⟨fun z => (by cases z), fun r' z => by injection z with z; subst z; exact ⟨d, rfl, hd.bt hb0 hX⟩⟩
    · rw [if_neg e, if_neg e]
      refine ⟨(h6 s q).1, fun r' z => ?_⟩
      obtain ⟨d', e1, e2⟩ := (h6 s q).2 r' z
      exact ⟨d', e1, e2.bt hb0 hX⟩
theorem wp_mapUpdate_run {P : Program} {op : Oper} {a : Act} {w w' : World} {K : Act → World → Prop} {Q : Exit → Act → World → Prop} (m x v : Operand) (t : TypeId) (hop : op.op = Op.mapUpdate t m x v)
    (mv kv' vv : Value) (hm : a.eval m = mv) (hx : a.eval x = kv') (hv : a.eval v = vv) (hrun : (Instr.mapUpdate t mv kv' vv).run P w = .ok () w') (h : K (a.put op.dst undef) w') : op.wp P a w K Q := by
  unfold Oper.wp
  simp [execOp, hop, hm, hx, hv, hrun, Result.andThen]
  exact h
/-- What Offer answers. -/
def offN (B : Buf) (r : Rec) : Int := if ¬ RecOk r then 3 else if (B.f r.st r.q).isSome = true ∨ r.q ≤ atV B.out r.st then 1 else if B.most ≤ B.n ∧ ¬ Due B.out r then 2 else 0
def offB (B : Buf) (r : Rec) : Buf := if offN B r = 0 then putB B r else B
def SameMap (w : World) (mb mb' : Option Nat) : Prop := mb' = mb ∨ (mb = none ∧ ∃ b, mb' = some b ∧ w.heap.size ≤ b)
/-- A buffer as it lies, its rows in no block of E either. -/
abbrev BufE (E : Nat → Prop) (w : World) (p : Nat) (mb : Option Nat) (B : Buf) : Prop := BufX (fun k => BX p mb k ∨ E k) w p mb B
theorem BufE.at {E : Nat → Prop} {w : World} {p : Nat} {mb : Option Nat} {B : Buf} (h : BufE E w p mb B) : BufAt w p mb B := BufX.at h (fun _ z => .inl z)
theorem BufE.mono {E F : Nat → Prop} {w : World} {p : Nat} {mb : Option Nat} {B : Buf} (h : BufE E w p mb B) (hf : ∀ k, F k → E k ∨ w.heap.size ≤ k) : BufE F w p mb B :=
  BufX.wid h (fun k hk => by rcases hk with hk | hk; exact .inl (.inl hk); exact (hf k hk).imp .inr id)
def OfferPost (E : Nat → Prop) (w : World) (p : Nat) (mb : Option Nat) (B : Buf) (r : Rec) (e : Ending) (w' : World) : Prop :=
  e = .returned (.int .i64 (offN B r)) ∧ ∃ mb', BufE E w' p mb' (offB B r) ∧ Bt (BX p mb) w w' ∧ SameMap w mb mb' ∧ (offN B r ≠ 0 → Gr w w' ∧ mb' = mb)
theorem offer_same {E : Nat → Prop} {w : World} {p : Nat} {mb : Option Nat} {B : Buf} {r : Rec} {w' : World} {n : Int} (h : BufE E w p mb B) (hg : Gr w w') (hn : offN B r = n) (h0 : n ≠ 0) : OfferPost E w p mb B r (.returned (.int .i64 n)) w' := by
  refine ⟨by rw [hn], mb, ?_, Bt.of hg, .inl rfl, fun _ => ⟨hg, rfl⟩⟩
  unfold offB
  rw [if_neg (by rw [hn]; exact h0)]
  exact BufX.gr' h hg
end Go.Proofs.Ytnneebdcaefgoaa
