/- Package files: get; the closures that stand for what happened. -/
import Derived.Test.YtdopmcepfacdlaaFdC
namespace Go.Proofs.Ytdopmcepfacdlaa
open Go.RowKit Go.Maps
attribute [local go_sem] max2_mx min2_mn max_two' min_two'

theorem rd_one (w : World) (s : ByteArray) : rdRow (w.alloc (.cells #[.string s] 9)) 1 (.slice (some ⟨w.heap.size, 0, none⟩) 1 1) [s].length (encT [s]) :=
  ⟨rfl, _, 1, rfl, Nat.le_refl _, fun _ => ⟨w.heap.size, 0, rfl, fun j u hu => by rw [cell_of_row _ _ _ _ _ _ (heap_alloc_new w _)]; simpa [encT] using hu⟩⟩
theorem rd_two (w : World) (s t : ByteArray) : rdRow (w.alloc (.cells #[.string s, .string t] 9)) 1 (.slice (some ⟨w.heap.size, 0, none⟩) 2 2) [s, t].length (encT [s, t]) :=
  ⟨rfl, _, 2, rfl, Nat.le_refl _, fun _ => ⟨w.heap.size, 0, rfl, fun j u hu => by rw [cell_of_row _ _ _ _ _ _ (heap_alloc_new w _)]; simpa [encT] using hu⟩⟩
/-- What get tells. -/
def getE (F : Fd) (s : ByteArray) : Int := if rdyE F.on [s] ≠ 0 then rdyE F.on [s] else if (look F.now s).isSome = true then 0 else 12
def getV (F : Fd) (s : ByteArray) : Option Nat := if getE F s = 0 then look F.now s else none
theorem ptr_some (n : Nat) : ptr (some n) = adr n := rfl
theorem ptr_none : ptr none = .pointer none := rfl
set_option maxRecDepth 100000 in
set_option maxHeartbeats 1000000 in
theorem get_calls (X : Nat → Prop) (w : World) (p : Nat) (F : Fd) (h : FdAt X w p F) (s : ByteArray) (hs : s.size ≤ maxLen) :
    Calls Try.prog 45 #[.pointer (some ⟨p, 0, none⟩), .string s] w fun e w' => e = .returned (.tuple #[ptr (getV F s), .int .i64 (getE F s)]) ∧ Gr w w' := by
  obtain ⟨nb, fb, sv, h1, h2, _⟩ := h.blk
  obtain ⟨c0, _, _, _, c4, _, _⟩ := fd_cells h1
  have Hrd := Lib.hid (fun W (hg : Gr w W) v (hv : rdRow W 1 v [s].length (encT [s])) => ready_calls p F.on v [s] W (keepc hg c4) hv (by simp) (by simpa using hs))
  have Hlk := Lib.hid (fun W (hg : Gr w W) => (h2.gr hg).look2 hs)
  have C0 := Lib.hid (fun W (hg : Gr w W) => keepc hg c0)
  have HE := Lib.hid (show getE F s = if rdyE F.on [s] ≠ 0 then rdyE F.on [s] else if (look F.now s).isSome = true then 0 else 12 from rfl)
  have HV := Lib.hid (show getV F s = if getE F s = 0 then look F.now s else none from rfl)
  generalize getV F s = gv at *
  generalize getE F s = ge at *
  obtain ⟨r, hr⟩ : ∃ r, rdyE F.on [s] = r := ⟨_, rfl⟩
  rw [hr] at Hrd HE
  obtain ⟨lk, hl⟩ : ∃ lk, look F.now s = lk := ⟨_, rfl⟩
  rw [hl] at Hlk HE HV
  clear h h1 h2 c0 c4 hr hl
  by_cases h0 : r = 0
  · subst h0
    have HE2 := Lib.hid (show ge = if lk.isSome = true then 0 else 12 by rw [HE.out, if_neg (fun z => z rfl)])
    clear HE
    go_enter Try.func45, Try.ntmps45
    go_wp2_with fail
    refine (Hrd.out _ (Gr.al Gr.rfl' _) _ (rd_one w s)).mono ?_
    rintro e w' ⟨rfl, rfl⟩
    have hg1 : Gr w (w.alloc (.cells #[.string s] 9)) := Gr.al Gr.rfl' _
    have c0 := C0.out _ hg1
    have Hl1 := Lib.hid (Hlk.out _ hg1)
    generalize w.alloc (.cells #[.string s] 9) = w1 at *
    have HG := Lib.hid hg1
    clear hg1
    cases lk with
    | none =>
      have e1 : ge = 12 := HE2.out
      have e2 : gv = none := by rw [HV.out, e1]; rfl
      subst e1 e2
      go_wp2_with (at_lookup; refine wpList_look_map _ rfl _ _ _ rfl nb rfl _ rfl _ _ Hl1.out ?_)
      exact bodyPost_ret (v := .tuple #[ptr none, .int .i64 12]) (by simp [results, Try.results45, go_sem, ptr]) rfl ⟨rfl, HG.out⟩
    | some n =>
      have e1 : ge = 0 := HE2.out
      have e2 : gv = some n := by rw [HV.out, e1]; rfl
      subst e1 e2
      go_wp2_with (at_lookup; refine wpList_look_map _ rfl _ _ _ rfl nb rfl _ rfl _ _ Hl1.out ?_)
      exact bodyPost_ret (v := .tuple #[ptr (some n), .int .i64 0]) (by simp [results, Try.results45, go_sem, ptr]) rfl ⟨rfl, HG.out⟩
  · have e1 : ge = r := by rw [HE.out, if_pos h0]
    have e2 : gv = none := by rw [HV.out, e1, if_neg h0]
    subst e1 e2
    have hne : (ge != 0) = true := by simp [h0]
    have hne' : (ge == 0) = false := by simp [h0]
    clear HE HV
    go_enter Try.func45, Try.ntmps45
    go_wp2_with fail
    refine (Hrd.out _ (Gr.al Gr.rfl' _) _ (rd_one w s)).mono ?_
    rintro e w' ⟨rfl, rfl⟩
    go_wp2_with fail
    exact bodyPost_ret (v := .tuple #[ptr none, .int .i64 ge]) (by simp [results, Try.results45, go_sem, ptr]) rfl ⟨rfl, Gr.al Gr.rfl' _⟩
theorem get_nil (s : ByteArray) (w : World) : Calls Try.prog 45 #[.pointer none, .string s] w fun e w' => e = .returned (.tuple #[.pointer none, .int .i64 1]) ∧ Gr w w' := by
  go_enter Try.func45, Try.ntmps45
  go_wp2_with fail
  refine (ready_nil _ _).mono ?_
  rintro e w' ⟨rfl, rfl⟩
  go_wp2_with fail
  exact bodyPost_ret (v := .tuple #[.pointer none, .int .i64 1]) (by simp [results, Try.results45, go_sem]) rfl ⟨rfl, Gr.al Gr.rfl' _⟩
theorem wpList_mapUpdate_run {P : Program} {ops : Array Oper} {rest : List Oper} {op : Oper} {a : Act} {w w' : World} {Q : Exit → Act → World → Prop} (hgd : op.guard = none) (m x v : Operand) (t : TypeId) (hop : op.op = Op.mapUpdate t m x v)
    (mv kv' vv : Value) (hm : a.eval m = mv) (hx : a.eval x = kv') (hv : a.eval v = vv) (hrun : (Instr.mapUpdate t mv kv' vv).run P w = .ok () w') (h : wpList P ops Q rest (a.put op.dst undef) w') : wpList P ops Q (op :: rest) a w :=
  wpList_plain hgd fun _ hK => wp_mapUpdate_run m x v t hop mv kv' vv hm hx hv hrun (hK _ _ h)
theorem wpList_delete_run {P : Program} {ops : Array Oper} {rest : List Oper} {op : Oper} {a : Act} {w w' : World} {Q : Exit → Act → World → Prop} (hgd : op.guard = none) (m x : Operand) (t k : TypeId) (hop : op.op = Op.call { callee := Callee.builtin Builtin.delete, args := #[m, x], argTypes := #[t, k] })
    (mv xv : Value) (hm : a.eval m = mv) (hx : a.eval x = xv) (hrun : ∀ ty, (Builtin.delete_ #[t, k] ty #[mv, xv]).run P w = .ok (.tuple #[]) w') (h : wpList P ops Q rest (a.put op.dst (.tuple #[])) w') : wpList P ops Q (op :: rest) a w :=
  wpList_plain hgd fun _ hK => wp_delete_run m x t k hop mv xv hm hx hrun (hK _ _ h)
theorem wpList_look1 {P : Program} (w : World) {ops : Array Oper} {rest : List Oper} {o : Oper} {a : Act} {Q : Exit → Act → World → Prop} (hg : o.guard = none) (m x : Operand) (t : TypeId) (hop : o.op = Op.lookup t m x false)
    (mb : Option Nat) (hm : a.eval m = .map mb) (key : Value) (hx : a.eval x = key) (v : Value) (hl : (Instr.lookup t (.map mb) key false).run P w = .ok v w)
    (hK : wpList P ops Q rest (a.put o.dst v) w) : wpList P ops Q (o :: rest) a w := by
  refine wpList_plain hg fun K' hK' => ?_
  unfold Oper.wp
  simp [execOp, hop, hm, hx, hl, Result.andThen]
  exact hK' _ _ hK
def ClPost (w : World) (b : Nat) (l : Dir) (e : Ending) (w' : World) : Prop := e = .returned (.tuple #[]) ∧ DirAt w' (some b) l ∧ w.grownBy w' (some b)
set_option maxRecDepth 100000 in
theorem cre1_calls (w : World) (b : Nat) (l : Dir) (h : DirAt w (some b) l) (hn : l.length ≤ 1000) (s : ByteArray) (n : Nat) (hs : s.size ≤ 20) (bx bn : Nat) (h1 : box w bx (ptr (some n)) 67) (h2 : box w bn (.string s) 9) :
    Calls Try.prog 42 #[.map (some b), adr bx, adr bn] w (ClPost w b (insD l s n)) := by
  obtain ⟨w', hrun, hd, hg⟩ := h.store (by unfold maxLen; omega) hs n
  have c1 := h1.cell
  have c2 := h2.cell
  have HD := Lib.hid hd; have HG := Lib.hid hg
  unfold ClPost
  clear h h1 h2 hd hg
  go_enter Try.func42, Try.ntmps42
  go_wp2_with (refine wpList_mapUpdate_run rfl (.tmp 4) (.tmp 5) (.tmp 6) 61 rfl _ _ _ rfl rfl rfl hrun ?_)
  exact ⟨rfl, .tuple #[], by kernel_rfl, rfl, HD.out, HG.out⟩
set_option maxRecDepth 100000 in
theorem del1_calls (w : World) (b : Nat) (l : Dir) (h : DirAt w (some b) l) (s : ByteArray) (hs : s.size ≤ 20) (bn : Nat) (h2 : box w bn (.string s) 9) :
    Calls Try.prog 50 #[.map (some b), adr bn] w (ClPost w b (delD l s)) := by
  have hrun := fun ty => h.drop (s := s) (by unfold maxLen; omega) ty
  obtain ⟨w', hr0, hd, hg⟩ := hrun 0
  have hrun' : ∀ ty, (Builtin.delete_ #[61, 9] ty #[.map (some b), .string s]).run Try.prog w = .ok (.tuple #[]) w' := fun ty => hr0
  have c2 := h2.cell
  have HD := Lib.hid hd; have HG := Lib.hid hg
  unfold ClPost
  clear h h2 hd hg hr0 hrun
  go_enter Try.func50, Try.ntmps50
  go_wp2_with (refine wpList_delete_run rfl (.tmp 3) (.tmp 4) 61 9 rfl _ _ rfl rfl hrun' ?_)
  exact ⟨rfl, .tuple #[], by kernel_rfl, rfl, HD.out, HG.out⟩
set_option maxRecDepth 100000 in
theorem ren1_calls (w : World) (b : Nat) (l : Dir) (h : DirAt w (some b) l) (hn : l.length ≤ 1000) (s t : ByteArray) (hs : s.size ≤ 20) (ht : t.size ≤ 20) (bn bt : Nat) (h1 : box w bn (.string s) 9) (h2 : box w bt (.string t) 9) (hc : (look l s).isSome = true) :
    Calls Try.prog 49 #[.map (some b), adr bn, adr bt] w (ClPost w b (FOp.run l (.ren s t))) := by
  obtain ⟨n, hl⟩ := Option.isSome_iff_exists.1 hc
  have hlk := h.look1 (s := s) (by unfold maxLen; omega)
  rw [hl] at hlk
  obtain ⟨w1, hr0, hd1, hg1⟩ := h.drop (s := s) (by unfold maxLen; omega) 0
  have hrun' : ∀ ty, (Builtin.delete_ #[61, 9] ty #[.map (some b), .string s]).run Try.prog w = .ok (.tuple #[]) w1 := fun ty => hr0
  have hln : (delD l s).length ≤ 1000 := Nat.le_trans (List.length_filter_le _ _) hn
  obtain ⟨w2, hrun2, hd2, hg2⟩ := hd1.store (by unfold maxLen; omega) ht n
  have c1 := h1.cell
  have c2 := h2.cell
  obtain ⟨es, c, hm⟩ := h.map
  have hb1 : Bt (fun k => k = b) w w1 := Bt.row hg1 rfl
  have c1' := (h1.bt hb1 (fun z => by subst z; exact h1.kd.no hm)).cell
  have c2' := (h2.bt hb1 (fun z => by subst z; exact h2.kd.no hm)).cell
  have hres : FOp.run l (.ren s t) = insD (delD l s) t n := by show (match look l s with | some n => insD (delD l s) t n | none => l) = _; rw [hl]
  rw [hres]
  have HD := Lib.hid hd2; have HG := Lib.hid (World.grownBy.andThen hg1 hg2 (fun j e => .inr e))
  unfold ClPost
  clear h h1 h2 hd1 hg1 hr0 hl hc hn hln hres hd2 hg2 hm hb1
  go_enter Try.func49, Try.ntmps49
  go_wp2_with (first | (at_lookup; refine wpList_look1 _ rfl _ _ 61 rfl (some b) rfl _ rfl _ hlk ?_) | (refine wpList_delete_run rfl (.tmp 8) (.tmp 9) 61 9 rfl _ _ rfl rfl hrun' ?_) | (refine wpList_mapUpdate_run rfl (.tmp 10) (.tmp 11) (.tmp 12) 61 rfl _ _ _ rfl rfl rfl hrun2 ?_))
  exact ⟨rfl, .tuple #[], by kernel_rfl, rfl, HD.out, HG.out⟩
end Go.Proofs.Ytdopmcepfacdlaa
