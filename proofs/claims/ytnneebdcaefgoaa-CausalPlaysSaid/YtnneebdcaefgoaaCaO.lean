/- The buffer: what it is in memory; New, Out, Len. -/
import Derived.Test.YtnneebdcaefgoaaCaN
namespace Go.Proofs.Ytnneebdcaefgoaa
open Go.RowKit Go.Maps
attribute [local go_sem] max2_mx min2_mn max_two' min_two'

/-- All stands as it stood but in the blocks of X. -/
structure Bt (X : Nat → Prop) (w w' : World) : Prop where
  os : w'.os = w.os
  tape : w'.tape = w.tape
  output : w'.output = w.output
  size : w.heap.size ≤ w'.heap.size
  block : ∀ k, k < w.heap.size → ¬ X k → w'.heap[k]? = w.heap[k]?
theorem Bt.of {X : Nat → Prop} {w w' : World} (h : Gr w w') : Bt X w w' := ⟨h.os, h.tape, h.output, h.size, fun k hk _ => h.block k hk⟩
theorem Bt.rfl' {X : Nat → Prop} {w : World} : Bt X w w := .of Gr.rfl'
theorem Bt.tr {X : Nat → Prop} {a b c : World} (h : Bt X a b) (k : Bt X b c) : Bt X a c :=
  ⟨k.os.trans h.os, k.tape.trans h.tape, k.output.trans h.output, Nat.le_trans h.size k.size, fun i hi hx => (k.block i (Nat.lt_of_lt_of_le hi h.size) hx).trans (h.block i hi hx)⟩
theorem Bt.mono {X Y : Nat → Prop} {a b : World} (h : Bt X a b) (hy : ∀ k, k < a.heap.size → X k → Y k) : Bt Y a b := ⟨h.os, h.tape, h.output, h.size, fun k hk hx => h.block k hk (fun e => hx (hy k hk e))⟩
theorem Bt.gr {X : Nat → Prop} {w0 a b : World} (h : Bt X a b) (hg : Gr w0 a) (hx : ∀ k, X k → w0.heap.size ≤ k) : Gr w0 b :=
  ⟨h.os.trans hg.os, h.tape.trans hg.tape, h.output.trans hg.output, Nat.le_trans hg.size h.size, fun k hk => (h.block k (Nat.lt_of_lt_of_le hk hg.size) (fun e => by have := hx k e; omega)).trans (hg.block k hk)⟩
theorem Bt.row {X : Nat → Prop} {w w' : World} {b : Nat} (h : w.grownBy w' (some b)) (hb : X b) : Bt X w w' :=
  ⟨h.os, h.tape, h.output, h.size, fun k hk hx => h.block k hk (fun e => hx (by cases e; exact hb))⟩
theorem Bt.cell {X : Nat → Prop} {w w' : World} (h : Bt X w w') {p : Addr} {v : Value} (hx : ¬ X p.block) (hc : w.cell? p = some v) : w'.cell? p = some v := by
  have hl := World.block_lt_of_cell? w p hc
  have hb := h.block p.block hl hx
  unfold World.cell? at hc ⊢
  rw [hb]; exact hc
theorem rdX.bt {X Y : Nat → Prop} {w w' : World} {v : Value} {l : List Int} (h : rdX X w v l) (hb : Bt Y w w') (hy : ∀ k, Y k → X k) : rdX X w' v l := by
  obtain ⟨⟨h1, a, c, e, h2, h3⟩, h4⟩ := h
  refine ⟨⟨h1, a, c, e, h2, fun h0 => ?_⟩, h4⟩
  obtain ⟨b, o, ea, hc⟩ := h3 h0
  subst ea
  exact ⟨b, o, rfl, fun j u hu => hb.cell (fun hk => h4 _ _ _ e h0 (hy _ hk)) (hc j u hu)⟩
theorem rdX_below {w : World} {v : Value} {l : List Int} (h : rdRow w 1 v l.length (encI l)) : rdX (fun k => w.heap.size ≤ k) w v l := by
  refine ⟨h, fun a n c e h0 hk => ?_⟩
  obtain ⟨a', c', e', _, hc⟩ := rd_at h
  obtain ⟨b, o, ea, hcl⟩ := hc h0
  rw [e] at e'
  injection e' with e1
  rw [ea] at e1
  injection e1 with e2
  subst e2
  have hk' : w.heap.size ≤ b := hk
  have := World.block_lt_of_cell? w _ (hcl 0 h0)
  simp at this; omega
/-- A buffer: its room, what is out, what is held, how many. -/
structure Buf where
  most : Int
  out : List Int
  f : Int → Int → Option Rec
  n : Nat
/-- The blocks of a buffer: its own, and its map's. -/
def BX (p : Nat) (mb : Option Nat) (k : Nat) : Prop := k = p ∨ mb = some k
/-- A buffer as it lies, its rows in no block of X. -/
def BufX (X : Nat → Prop) (w : World) (p : Nat) (mb : Option Nat) (B : Buf) : Prop :=
  p < w.heap.size ∧ (∀ b, mb = some b → b < w.heap.size ∧ b ≠ p) ∧
  ∃ ov fv, w.heap[p]? = some (.cells #[.int .i64 B.most, ov, .map mb] 56 (0, 0)) ∧ rdX X w ov B.out ∧ MapIs w mb fv B.n ∧
    ∀ s q, (B.f s q = none → fv s q = none) ∧ ∀ r, B.f s q = some r → ∃ d, fv s q = some (recV r d) ∧ rdX X w d r.d
/-- A buffer as it lies. -/
abbrev BufAt (w : World) (p : Nat) (mb : Option Nat) (B : Buf) : Prop := BufX (BX p mb) w p mb B
theorem BufAt.gr {w w' : World} {p : Nat} {mb : Option Nat} {B : Buf} {Y : Nat → Prop} (h : BufAt w p mb B) (hb : Bt Y w w') (hy : ∀ k, Y k → ¬ BX p mb k) (hr : ∀ v l, rdX (BX p mb) w v l → rdX (BX p mb) w' v l) : BufAt w' p mb B := by
  obtain ⟨h1, h2, ov, fv, h3, h4, h5, h6⟩ := h
  refine ⟨Nat.lt_of_lt_of_le h1 hb.size, fun b e => ⟨Nat.lt_of_lt_of_le (h2 b e).1 hb.size, (h2 b e).2⟩, ov, fv, (hb.block p h1 (fun e => hy _ e (.inl rfl))).trans h3, hr _ _ h4, ?_, fun s q => ⟨(h6 s q).1, fun r e => ?_⟩⟩
  · rcases h5 with h5 | ⟨b, D, e, ⟨es, clock, hbk, hrest⟩, hh⟩
    · exact .inl h5
    · exact .inr ⟨b, D, e, ⟨es, clock, (hb.block b (h2 b e).1 (fun z => hy _ z (.inr e))).trans hbk, hrest⟩, hh⟩
  · obtain ⟨d, e1, e2⟩ := (h6 s q).2 r e
    exact ⟨d, e1, hr _ _ e2⟩
theorem BufAt.gr' {w w' : World} {p : Nat} {mb : Option Nat} {B : Buf} (h : BufAt w p mb B) (hg : Gr w w') : BufAt w' p mb B :=
  h.gr (Y := fun _ => False) (.of hg) (fun _ hk => hk.elim) (fun _ _ hr => hr.gr hg)
def roomOf (room : Int) : Int := mn (mx room 0) 400
def bufNew (room : Int) (v : List Int) : Buf := ⟨roomOf room, joinV v [], fun _ _ => none, 0⟩
set_option maxHeartbeats 1000000 in
theorem new_calls (room : Int) (v : Value) (l : List Int) (w : World) (hv : rdRow w 1 v l.length (encI l)) (hk : l.length ≤ 1000000) :
    Calls Try.prog 10 #[.int .i64 room, v] w fun e w' => ∃ p, e = .returned (.pointer (some ⟨p, 0, none⟩)) ∧ w.heap.size ≤ p ∧ BufAt w' p none (bufNew room l) ∧ Gr w w' := by
  have hnil : rdRow w 1 (.slice none 0 0) ([] : List Int).length (encI []) := ⟨rfl, none, 0, rfl, Nat.le_refl _, fun h => by simp at h⟩
  have H := Lib.hid (join_calls v (.slice none 0 0) l [] w hv hnil hk (by simp))
  clear hv hnil
  go_enter Try.func10, Try.ntmps10
  go_wp2_with fail
  refine H.out.mono ?_
  rintro e w1 ⟨v1, rfl, ho, hb⟩
  have Ho := Lib.hid (rdX_below ho.1); have Hb := Lib.hid hb
  obtain ⟨⟨_, a1, c1, rfl, _⟩, _⟩ := ho
  clear hb
  go_wp2_with fail
  go_ret
  exact ⟨w1.heap.size, rfl, Hb.out.size, ⟨by simp, (fun b e => by cases e), _, fun _ _ => none, heap_alloc_new w1 _, (Ho.out.gr (Gr.al Gr.rfl' _)).mono (fun k hk => by rcases hk with rfl | hk; exact Nat.le_refl _; cases hk), .inl ⟨rfl, rfl, fun _ _ => rfl⟩, fun s q => ⟨fun _ => rfl, fun r e => by cases e⟩⟩, Gr.al Hb.out _⟩
theorem bcells {X : Nat → Prop} {w : World} {p : Nat} {mb : Option Nat} {B : Buf} (h : BufX X w p mb B) : ∃ ov, w.cell? ⟨p, 0, none⟩ = some (.int .i64 B.most) ∧ w.cell? ⟨p, 1, none⟩ = some ov ∧ w.cell? ⟨p, 2, none⟩ = some (.map mb) ∧ rdX X w ov B.out := by
  obtain ⟨_, _, ov, fv, h3, h4, _⟩ := h
  exact ⟨ov, by rw [cell_of_row _ p 0 _ _ _ h3]; rfl, by rw [cell_of_row _ p 1 _ _ _ h3]; rfl, by rw [cell_of_row _ p 2 _ _ _ h3]; rfl, h4⟩
theorem out_calls (w : World) (p : Nat) (mb : Option Nat) (B : Buf) (h : BufAt w p mb B) (hk : B.out.length ≤ 1000000) :
    Calls Try.prog 13 #[.pointer (some ⟨p, 0, none⟩)] w fun e w' => ∃ v', e = .returned v' ∧ w'.ownsRow w.heap.size 3 1 v' B.out.length (encI B.out) ∧ Gr w w' := by
  obtain ⟨ov, _, c1, _, hr⟩ := bcells h
  have H := Lib.hid (clone_calls ov B.out w hr.1 hk)
  clear h hr
  go_enter Try.func13, Try.ntmps13
  go_wp2_with fail
  refine H.out.mono ?_
  rintro e w1 ⟨v1, rfl, ho, hb⟩
  have Ho := Lib.hid ho
  clear ho
  go_wp2_with fail
  go_ret
  exact ⟨_, rfl, Ho.out, hb⟩
theorem wpList_len_map {P : Program} (w : World) {ops : Array Oper} {rest : List Oper} {o : Oper} {a : Act} {Q : Exit → Act → World → Prop} (hg : o.guard = none) (m : Operand) (t : TypeId) (hop : o.op = Op.call { callee := Callee.builtin Builtin.len, args := #[m], argTypes := #[t] })
    (mb : Option Nat) (hm : a.eval m = .map mb) (n : Nat) (hl : ∀ ty, (Builtin.len_ #[t] ty #[.map mb]).run P w = .ok (.int .i64 n) w)
    (hK : wpList P ops Q rest (a.put o.dst (.int .i64 n)) w) : wpList P ops Q (o :: rest) a w := by
  refine wpList_plain hg fun K' hK' => ?_
  unfold Oper.wp
  simp [execOp, hop, resolve, invoke, builtin, hm, hl o.type, Result.andThen]
  exact hK' _ _ hK
theorem wpList_look_map {P : Program} (w : World) {ops : Array Oper} {rest : List Oper} {o : Oper} {a : Act} {Q : Exit → Act → World → Prop} (hg : o.guard = none) (m x : Operand) (t : TypeId) (hop : o.op = Op.lookup t m x true)
    (mb : Option Nat) (hm : a.eval m = .map mb) (key : Value) (hx : a.eval x = key) (v : Value) (is : Bool) (hl : (Instr.lookup t (.map mb) key true).run P w = .ok (.tuple #[v, .bool is]) w)
    (hK : wpList P ops Q rest (a.put o.dst (.tuple #[v, .bool is])) w) : wpList P ops Q (o :: rest) a w := by
  refine wpList_plain hg fun K' hK' => ?_
  unfold Oper.wp
  simp [execOp, hop, hm, hx, hl, Result.andThen]
  exact hK' _ _ hK
set_option maxRecDepth 100000 in
theorem len_calls (w : World) (p : Nat) (mb : Option Nat) (B : Buf) (h : BufAt w p mb B) :
    Calls Try.prog 16 #[.pointer (some ⟨p, 0, none⟩)] w fun e w' => e = .returned (.int .i64 B.n) ∧ w = w' := by
  obtain ⟨ov, _, _, c2, hr⟩ := bcells h
  have hl : ∀ ty, (Builtin.len_ #[54] ty #[.map mb]).run Try.prog w = .ok (.int .i64 B.n) w := by
    obtain ⟨_, _, ov, fv, _, _, h5, _⟩ := h
    exact h5.len
  have Hl := Lib.hid hl
  clear h hr hl
  go_enter Try.func16, Try.ntmps16
  go_wp2_with (at_len; refine wpList_len_map _ rfl _ 54 rfl mb rfl B.n Hl.out ?_)
  go_ret
  exact ⟨rfl, rfl⟩
end Go.Proofs.Ytnneebdcaefgoaa
