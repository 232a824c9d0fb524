/- The map of hints: its keys. -/
import Derived.Test.YtijgbfhjimlklaaPtE
import Derived.Maps.OwnSet
import Derived.Maps.RangeWalk
import Derived.DeepKeys4
namespace Go.Proofs.Ytijgbfhjimlklaa
open Go.RowKit Go.Maps

abbrev Hk := Pt × Int
abbrev hkC (x : Hk) : List Value := [.string x.1.s, .int .i64 x.1.t, .int .i64 x.1.v, .int .i64 x.1.c, .int .i64 x.1.st, .int .i64 x.1.q, .int .i64 x.2]
abbrev hkV (x : Hk) : Value := .agg #[.string x.1.s, .int .i64 x.1.t, .int .i64 x.1.v, .int .i64 x.1.c, .int .i64 x.1.st, .int .i64 x.1.q, .int .i64 x.2]
theorem laidT : laidOutB Try.prog = true := by kernel_rfl
theorem rowK : (66 : TypeId) < Try.prog.types.size := of_decide_eq_true (by kernel_rfl)
theorem wideK : (match Try.prog.underlying 66 with | some (.array _ _) | some (.struct _) => true | _ => false) = true := by kernel_rfl
set_option maxRecDepth 100000 in
theorem lawK0 : WideMaps.KeyLaw Try.prog 66 := deep_law_laid laidT (m := 5) (by omega) rowK (by kernel_rfl) wideK
theorem lawK : Keyed Try.prog 66 := Keyed.of_law lawK0
def keyH (x : Hk) : Lit := .string (keyBytes [.string (sb x.1.s), .int .i64 x.1.t, .int .i64 x.1.v, .int .i64 x.1.c, .int .i64 x.1.st, .int .i64 x.1.q, .int .i64 x.2])
def HkI (x : Hk) : Prop := x.1.s.size ≤ maxLen ∧ PtI x.1 ∧ I64 x.2
theorem hc_h : Try.prog.cellsOf 66 = 7 := by kernel_rfl
theorem hc_p : Try.prog.cellsOf 31 = 6 := by kernel_rfl
theorem hc_t : Try.prog.cellsOf 29 = 3 := by kernel_rfl
theorem hc_i : Try.prog.cellsOf 3 = 1 := by kernel_rfl
theorem hc_l : Try.prog.cellsOf 2 = 1 := by kernel_rfl
theorem hc_s : Try.prog.cellsOf 9 = 1 := by kernel_rfl
theorem mapM_some {α β : Type} {f : α → Option β} : ∀ {l : List α} {r : List β}, l.mapM f = some r → ∀ x ∈ l, (f x).isSome = true
  | [], _, _, _, h => by cases h
  | y :: l, r, h, x, hx => by
    rw [List.mapM_cons] at h
    simp only [Option.bind_eq_bind, Option.bind_eq_some_iff] at h
    obtain ⟨a, h1, b, h2, _⟩ := h
    rcases List.mem_cons.1 hx with rfl | hx
    · rw [h1]; rfl
    · exact mapM_some h2 x hx
theorem struct_inv {P : Program} {d : Nat} {t : TypeId} {fs : Array Field} {cs : List Value} {l : List Lit} (hu : P.underlying t = some (.struct fs)) (h : P.keyLits (d + 1) t cs = some l) :
    cs.length = P.cellsOf t ∧ ∀ f ∈ fs.toList, (P.keyLits d f.type ((cs.drop f.offset).take (P.cellsOf f.type))).isSome = true := by
  unfold Program.keyLits at h
  rw [hu] at h
  simp only at h
  split at h
  · rename_i hc
    refine ⟨hc.1, ?_⟩
    simp only [Option.map_eq_some_iff] at h
    obtain ⟨r, h1, _⟩ := h
    exact mapM_some h1
  · cases h
set_option maxRecDepth 100000 in
theorem inv_i {d : Nat} {cs : List Value} (h : (Try.prog.keyLits (d + 1) 3 cs).isSome = true) (hl : cs.length = 1) : ∃ n, cs = [.int .i64 n] ∧ I64 n := by
  match cs, hl with
  | [x], _ =>
    unfold Program.keyLits at h
    simp [Try.underlying3] at h
    cases x <;> simp at h
    obtain ⟨rfl, w⟩ := h
    exact ⟨_, rfl, wf_i64 w⟩
set_option maxRecDepth 100000 in
theorem inv_l {d : Nat} {cs : List Value} (h : (Try.prog.keyLits (d + 1) 2 cs).isSome = true) (hl : cs.length = 1) : ∃ n, cs = [.int .i64 n] ∧ I64 n := by
  match cs, hl with
  | [x], _ =>
    unfold Program.keyLits at h
    simp [Try.underlying2] at h
    cases x <;> simp at h
    obtain ⟨rfl, w⟩ := h
    exact ⟨_, rfl, wf_i64 w⟩
set_option maxRecDepth 100000 in
theorem inv_s {d : Nat} {cs : List Value} (h : (Try.prog.keyLits (d + 1) 9 cs).isSome = true) (hl : cs.length = 1) : ∃ s, cs = [.string s] ∧ s.size ≤ maxLen := by
  match cs, hl with
  | [x], _ =>
    unfold Program.keyLits at h
    simp [Try.underlying9] at h
    cases x <;> simp at h
    exact ⟨_, rfl, h⟩
theorem lits_t {m : Nat} {c st q : Int} (h1 : I64 c) (h2 : I64 st) (h3 : I64 q) : Try.prog.keyLits (m + 2) 29 [.int .i64 c, .int .i64 st, .int .i64 q] = some [.int .i64 c, .int .i64 st, .int .i64 q] := by
  have w1 : (Lit.int .i64 c).wf = true := WalkArith.wf_i64 h1
  have w2 : (Lit.int .i64 st).wf = true := WalkArith.wf_i64 h2
  have w3 : (Lit.int .i64 q).wf = true := WalkArith.wf_i64 h3
  unfold Program.keyLits
  simp only [Try.underlying29]
  rw [if_pos (by rw [hc_t]; exact ⟨rfl, by simp⟩)]
  simp [hc_i, Program.keyLits, Try.underlying3, w1, w2, w3]
theorem lits_p {m : Nat} {p : Pt} (h0 : p.s.size ≤ maxLen) (h : PtI p) : Try.prog.keyLits (m + 3) 31 (ptC p) = some [.string (sb p.s), .int .i64 p.t, .int .i64 p.v, .int .i64 p.c, .int .i64 p.st, .int .i64 p.q] := by
  obtain ⟨s, t, v, c, st, q⟩ := p
  obtain ⟨h1, h2, h3, h4, h5⟩ := h
  simp only at h0 h1 h2 h3 h4 h5
  have w1 : (Lit.int .i64 t).wf = true := WalkArith.wf_i64 h1
  have w2 : (Lit.int .i64 v).wf = true := WalkArith.wf_i64 h2
  have ht := lits_t (m := m) h3 h4 h5
  unfold Program.keyLits
  simp only [Try.underlying31]
  rw [if_pos (by rw [hc_p]; exact ⟨rfl, by simp⟩)]
  have es : Try.prog.keyLits (m + 2) 9 [.string s] = some [.string (sb s)] := by
    unfold Program.keyLits; simp [Try.underlying9, h0, sb]
  have ei : Try.prog.keyLits (m + 2) 3 [.int .i64 t] = some [.int .i64 t] := by
    unfold Program.keyLits; simp [Try.underlying3, w1]
  have el : Try.prog.keyLits (m + 2) 2 [.int .i64 v] = some [.int .i64 v] := by
    unfold Program.keyLits; simp [Try.underlying2, w2]
  simp [hc_i, hc_s, hc_l, hc_t, es, ei, el, ht]
theorem hkeyH {x : Hk} (h : HkI x) : keyOf Try.prog 66 (hkV x) = some (keyH x) := by
  obtain ⟨p, n⟩ := x
  obtain ⟨h0, h1, h6⟩ := h
  simp only at h0 h1 h6
  have hty : Try.prog.keyType 66 = true := by kernel_rfl
  obtain ⟨m, hm⟩ : ∃ m, Try.prog.types.size = m + 4 := ⟨Try.prog.types.size - 4, by have : (4 : Nat) ≤ Try.prog.types.size := of_decide_eq_true (by kernel_rfl); omega⟩
  have w6 : (Lit.int .i64 n).wf = true := WalkArith.wf_i64 h6
  have hp := lits_p (m := m + 1) h0 h1
  unfold keyOf
  simp only [Try.underlying66]
  rw [if_pos (by simp [hty, Value.formed, Try.underlying66, hc_h]), hm]
  unfold Program.keyLits
  simp only [Try.underlying66, Value.cells]
  rw [if_pos (by rw [hc_h]; exact ⟨rfl, by simp⟩)]
  have ei : Try.prog.keyLits (m + 1 + 3) 3 [.int .i64 n] = some [.int .i64 n] := by
    unfold Program.keyLits; simp [Try.underlying3, w6]
  simp [hc_p, hc_i, hp, ei, keyH]
set_option maxRecDepth 100000 in
theorem invH {key : Value} {kl : Lit} (h : keyOf Try.prog 66 key = some kl) : ∃ x, key = hkV x ∧ HkI x ∧ kl = keyH x := by
  have hk := h
  obtain ⟨m, hm⟩ : ∃ m, Try.prog.types.size = m + 4 := ⟨Try.prog.types.size - 4, by have : (4 : Nat) ≤ Try.prog.types.size := of_decide_eq_true (by kernel_rfl); omega⟩
  unfold keyOf at h
  simp only [Try.underlying66] at h
  split at h
  · rename_i hf
    simp only [Bool.and_eq_true] at hf
    obtain ⟨_, hf⟩ := hf
    cases key <;> simp [Value.formed, Try.underlying66] at hf
    rename_i cs
    rw [hm] at h
    simp only [Option.map_eq_some_iff] at h
    obtain ⟨ls, h1, _⟩ := h
    simp only [Value.cells] at h1
    obtain ⟨k1, k2⟩ := struct_inv Try.underlying66 h1
    obtain ⟨⟨l⟩, rfl⟩ : ∃ l, cs = l := ⟨cs, rfl⟩
    rw [hc_h] at k1
    replace k1 : l.length = 7 := k1
    replace k2 := fun f hf => (show (Try.prog.keyLits (m + 4) f.type ((l.drop f.offset).take (Try.prog.cellsOf f.type))).isSome = true from k2 f hf)
    simp only [List.mem_cons, List.not_mem_nil, or_false, forall_eq_or_imp, forall_eq] at k2
    obtain ⟨a1, a2⟩ := k2
    match l, k1 with
    | [x0, x1, x2, x3, x4, x5, x6], _ =>
      simp [hc_p, hc_i] at a1 a2
      obtain ⟨n, e6, i6⟩ := inv_i a2 rfl
      obtain ⟨r, hr⟩ := Option.isSome_iff_exists.1 a1
      obtain ⟨_, b⟩ := struct_inv Try.underlying31 hr
      simp only [List.mem_cons, List.not_mem_nil, or_false, forall_eq_or_imp, forall_eq] at b
      obtain ⟨b1, b2, b3, b4⟩ := b
      simp [hc_s, hc_i, hc_l, hc_t] at b1 b2 b3 b4
      obtain ⟨s, e0, i0⟩ := inv_s b1 rfl
      obtain ⟨t, e1, i1⟩ := inv_i b2 rfl
      obtain ⟨v, e2, i2⟩ := inv_l b3 rfl
      obtain ⟨r, hr⟩ := Option.isSome_iff_exists.1 b4
      obtain ⟨_, b⟩ := struct_inv Try.underlying29 hr
      simp only [List.mem_cons, List.not_mem_nil, or_false, forall_eq_or_imp, forall_eq] at b
      obtain ⟨b1, b2, b3⟩ := b
      simp [hc_i] at b1 b2 b3
      obtain ⟨c, e3, i3⟩ := inv_i b1 rfl
      obtain ⟨st, e4, i4⟩ := inv_i b2 rfl
      obtain ⟨q, e5, i5⟩ := inv_i b3 rfl
      simp only [List.cons.injEq, and_true] at e0 e1 e2 e3 e4 e5 e6
      subst e0 e1 e2 e3 e4 e5 e6
      have hi : HkI (⟨s, t, v, c, st, q⟩, n) := ⟨i0, ⟨i1, i2, i3, i4, i5⟩, i6⟩
      exact ⟨(⟨s, t, v, c, st, q⟩, n), rfl, hi, (Option.some.inj ((hkeyH hi).symm.trans hk)).symm⟩
  · cases h
theorem keyH_inj {x y : Hk} (h1 : HkI x) (h2 : HkI y) (h : keyH x = keyH y) : x = y := by
  have a := hkeyH h1
  have b := hkeyH h2
  rw [h] at a
  have := lawK.inj a b
  obtain ⟨⟨x1, x2, x3, x4, x5, x6⟩, x7⟩ := x
  obtain ⟨⟨y1, y2, y3, y4, y5, y6⟩, y7⟩ := y
  simp at this ⊢
  simpa [and_assoc] using this
theorem hkV_inj {x y : Hk} (h : hkV x = hkV y) : x = y := by
  obtain ⟨⟨x1, x2, x3, x4, x5, x6⟩, x7⟩ := x
  obtain ⟨⟨y1, y2, y3, y4, y5, y6⟩, y7⟩ := y
  simp at h ⊢
  simpa [and_assoc] using h
end Go.Proofs.Ytijgbfhjimlklaa
