/- Three folders beside each other; one alone. What calls do to a folder that has power and is not armed. -/
import Derived.Test.YtdopmcepfacdlaaFdT
namespace Go.Proofs.Ytdopmcepfacdlaa
open Go.RowKit Go.Maps

structure Three (w0 : World) (X1 X2 X3 : Nat → Prop) (w : World) (p1 : Nat) (F1 : Fd) (p2 : Nat) (F2 : Fd) (p3 : Nat) (F3 : Fd) : Prop where
  a : Well X1 w p1 F1
  b : Well X2 w p2 F2
  c : Well X3 w p3 F3
  d12 : ∀ k, X1 k → ¬ X2 k
  d13 : ∀ k, X1 k → ¬ X3 k
  d23 : ∀ k, X2 k → ¬ X3 k
  gr : Gr w0 w
  n1 : ∀ k, X1 k → w0.heap.size ≤ k
  n2 : ∀ k, X2 k → w0.heap.size ≤ k
  n3 : ∀ k, X3 k → w0.heap.size ≤ k
def Th (w0 w : World) (p1 : Nat) (F1 : Fd) (p2 : Nat) (F2 : Fd) (p3 : Nat) (F3 : Fd) : Prop := ∃ X1 X2 X3, Three w0 X1 X2 X3 w p1 F1 p2 F2 p3 F3
section
variable {w0 w w' : World} {p1 p2 p3 : Nat} {F1 F2 F3 F' : Fd} {X1 X2 X3 : Nat → Prop}
theorem Th.rot (h : Th w0 w p1 F1 p2 F2 p3 F3) : Th w0 w p2 F2 p3 F3 p1 F1 := by
  obtain ⟨X1, X2, X3, h⟩ := h
  exact ⟨X2, X3, X1, h.b, h.c, h.a, h.d23, fun k a b => h.d12 k b a, fun k a b => h.d13 k b a, h.gr, h.n2, h.n3, h.n1⟩
theorem Th.grow (h : Th w0 w p1 F1 p2 F2 p3 F3) (hg : Gr w w') : Th w0 w' p1 F1 p2 F2 p3 F3 := by
  obtain ⟨X1, X2, X3, h⟩ := h
  exact ⟨X1, X2, X3, h.a.gr hg, h.b.gr hg, h.c.gr hg, h.d12, h.d13, h.d23, h.gr.tr hg, h.n1, h.n2, h.n3⟩
theorem Three.turn (h : Three w0 X1 X2 X3 w p1 F1 p2 F2 p3 F3) (hw : Well (Aft X1 w w') w' p1 F') (hb : Bt X1 w w') : Th w0 w' p1 F' p2 F2 p3 F3 := by
  obtain ⟨b1, b2⟩ := h.b.apart (fun k x z => h.d12 k z x) hb
  obtain ⟨c1, c2⟩ := h.c.apart (fun k x z => h.d13 k z x) hb
  exact ⟨_, X2, X3, hw, b1, c1, fun k x z => b2 k z x, fun k x z => c2 k z x, h.d23, hb.gr h.gr h.n1, fun k hk => hk.elim (h.n1 k) (fun z => Nat.le_trans h.gr.size z.1), h.n2, h.n3⟩
end
/-- It has power, and is not armed. -/
structure Fd.Free (F : Fd) : Prop where
  on : F.on = true
  armed : F.armed = false
section
variable {F : Fd} {s t : ByteArray} {n : Nat}
theorem Fd.Free.stepE (h : F.Free) : stepE F = 0 := by unfold Go.Proofs.Ytdopmcepfacdlaa.stepE; rw [if_pos h.armed]
theorem Fd.Free.stepF (h : F.Free) : stepF F = F := by unfold Go.Proofs.Ytdopmcepfacdlaa.stepF; rw [if_pos h.armed]
theorem bad_ok {l : List ByteArray} (h : ∀ s ∈ l, NameOk s) : bad l = false := by
  unfold bad
  rw [List.any_eq_false]
  intro s hs
  rw [decide_eq_true (h s hs)]; simp
theorem Fd.Free.rdy (h : F.Free) {l : List ByteArray} (hl : ∀ s ∈ l, NameOk s) : rdyE F.on l = 0 := by
  unfold rdyE
  rw [if_neg (by rw [h.on]; simp), if_neg (by rw [bad_ok hl]; simp)]
theorem Fd.Free.rdy1 (h : F.Free) (hs : NameOk s) : rdyE F.on [s] = 0 := h.rdy (fun x hx => by rw [List.mem_singleton.1 hx]; exact hs)
theorem Fd.Free.get (h : F.Free) (hs : NameOk s) (hl : look F.now s = some n) : getE F s = 0 ∧ getV F s = some n := by
  have e : getE F s = 0 := by unfold getE; rw [if_neg (fun z => z (h.rdy1 hs)), hl]; rfl
  exact ⟨e, by unfold getV; rw [if_pos e]; exact hl⟩
theorem Fd.Free.get_no (h : F.Free) (hs : NameOk s) (hl : look F.now s = none) : getE F s = 12 ∧ getV F s = none := by
  have e : getE F s = 12 := by unfold getE; rw [if_neg (fun z => z (h.rdy1 hs)), hl]; rfl
  exact ⟨e, by unfold getV; rw [if_neg (by rw [e]; decide)]⟩
theorem Fd.Free.okc (h : F.Free) (hs : NameOk s) (hl : look F.now s = none) (hn : F.now.length < 64) : okC F s := ⟨h.rdy1 hs, hl, hn⟩
theorem Fd.Free.createF (h : F.Free) : createF F s n = { F with now := insD F.now s n, since := F.since ++ [.cre s n], fl := updF F.fl n ⟨⟨#[]⟩, 0⟩ } := by
  unfold Go.Proofs.Ytdopmcepfacdlaa.createF hapF
  have h' : ({ F with fl := updF F.fl n ⟨⟨#[]⟩, 0⟩ } : Fd).Free := ⟨h.on, h.armed⟩
  rw [h'.stepF]; rfl
theorem Fd.Free.createE (h : F.Free) (hk : okC F s) : createE F s = 0 := by
  unfold Go.Proofs.Ytdopmcepfacdlaa.createE
  rw [if_neg (fun z => z hk.1), hk.2.1, if_neg (by simp), if_neg (by have := hk.2.2; omega), h.stepE]
theorem Fd.Free.app (h : F.Free) (hs : NameOk s) (hl : look F.now s = some n) (hr : (usedF F : Int) + t.size ≤ F.room) : appE F s t = 0 ∧ appF F s t = { F with fl := updF F.fl n ⟨(F.fl n).b ++ t, (F.fl n).sy⟩ } := by
  obtain ⟨g1, g2⟩ := h.get hs hl
  constructor
  · unfold appE; rw [if_pos g1, if_neg (by omega), h.stepE]
  · unfold appF; rw [g2]; show (if _ then _ else _) = _; rw [if_neg (by omega), h.stepF]
theorem Fd.Free.sync (h : F.Free) (hs : NameOk s) (hl : look F.now s = some n) : syncE F s = 0 ∧ syncF F s = { F with fl := updF F.fl n ⟨(F.fl n).b, (F.fl n).b.size⟩ } := by
  obtain ⟨g1, g2⟩ := h.get hs hl
  constructor
  · unfold syncE; rw [if_pos g1, h.stepE]
  · unfold syncF; rw [g2]; show (if _ then _ else _) = _; rw [if_pos h.stepE, h.stepF]
theorem Fd.Free.sdir (h : F.Free) : sdirE F = 0 ∧ sdirF F = { F with firm := F.now, since := [] } := by
  have hr : rdyE F.on [] = 0 := h.rdy (fun x hx => by cases hx)
  constructor
  · unfold sdirE; rw [if_pos hr, h.stepE]
  · unfold sdirF; rw [if_pos hr, if_pos h.stepE, h.stepF]
theorem newF_free (k : Int) : (newF k).Free := ⟨rfl, rfl⟩
theorem crashF_free (L : Dir) (fl : Nat → Fl) : (crashF F L fl).Free := ⟨rfl, rfl⟩
end
section
variable {w0 w : World} {p1 p2 p3 : Nat} {F1 F2 F3 : Fd}
theorem Th.create (h : Th w0 w p1 F1 p2 F2 p3 F3) (hsl : F1.since.length ≤ 1000) (s : ByteArray) (hm : s.size ≤ maxLen) (hk : okC F1 s) :
    Calls Try.prog 12 #[.pointer (some ⟨p1, 0, none⟩), .string s] w fun e w' => ∃ n, ¬ F1.has n ∧ e = .returned (.int .i64 (createE F1 s)) ∧ Th w0 w' p1 (createF F1 s n) p2 F2 p3 F3 := by
  obtain ⟨X1, X2, X3, h⟩ := h
  refine (wcreate X1 w p1 F1 h.a hsl s hm).mono ?_
  rintro e w' (⟨_, n, hn, he, hw, hb⟩ | ⟨hno, _⟩)
  · exact ⟨n, hn, he, h.turn hw hb⟩
  · exact absurd hk hno
theorem Th.append (h : Th w0 w p1 F1 p2 F2 p3 F3) (s t : ByteArray) (hm : s.size ≤ maxLen) (ht : t.size ≤ 1000000) :
    Calls Try.prog 15 #[.pointer (some ⟨p1, 0, none⟩), .string s, .string t] w fun e w' => e = .returned (.int .i64 (appE F1 s t)) ∧ Th w0 w' p1 (appF F1 s t) p2 F2 p3 F3 := by
  obtain ⟨X1, X2, X3, h⟩ := h
  exact (wappend X1 w p1 F1 h.a s t hm ht).mono fun e w' ⟨he, hw, hb⟩ => ⟨he, h.turn hw hb⟩
theorem Th.sync (h : Th w0 w p1 F1 p2 F2 p3 F3) (s : ByteArray) (hm : s.size ≤ maxLen) :
    Calls Try.prog 16 #[.pointer (some ⟨p1, 0, none⟩), .string s] w fun e w' => e = .returned (.int .i64 (syncE F1 s)) ∧ Th w0 w' p1 (syncF F1 s) p2 F2 p3 F3 := by
  obtain ⟨X1, X2, X3, h⟩ := h
  exact (wsync X1 w p1 F1 h.a s hm).mono fun e w' ⟨he, hw, hb⟩ => ⟨he, h.turn hw hb⟩
theorem Th.sdir (h : Th w0 w p1 F1 p2 F2 p3 F3) :
    Calls Try.prog 13 #[.pointer (some ⟨p1, 0, none⟩)] w fun e w' => e = .returned (.int .i64 (sdirE F1)) ∧ Th w0 w' p1 (sdirF F1) p2 F2 p3 F3 := by
  obtain ⟨X1, X2, X3, h⟩ := h
  exact (wsdir X1 w p1 F1 h.a).mono fun e w' ⟨he, hw, hb⟩ => ⟨he, h.turn hw hb⟩
theorem Th.crash (h : Th w0 w p1 F1 p2 F2 p3 F3) (hsl : F1.since.length ≤ 1000) (v : Value) (ps : List Int) (hv : rdRow w 1 v ps.length (encI ps)) (hps : ∀ x ∈ ps, I64 x) (hpl : ps.length ≤ maxLen) :
    Calls Try.prog 17 #[.pointer (some ⟨p1, 0, none⟩), v] w fun e w' => e = .returned (.tuple #[]) ∧ ∃ L fl, Crashed F1 ps L fl ∧ Th w0 w' p1 (crashF F1 L fl) p2 F2 p3 F3 := by
  obtain ⟨X1, X2, X3, h⟩ := h
  exact (wcrash X1 w p1 F1 h.a hsl v ps hv hps hpl).mono fun e w' ⟨he, L, fl, hc, hw, hb⟩ => ⟨he, L, fl, hc, h.turn hw hb⟩
theorem Th.read (h : Th w0 w p1 F1 p2 F2 p3 F3) (s : ByteArray) (hm : s.size ≤ maxLen) :
    Calls Try.prog 18 #[.pointer (some ⟨p1, 0, none⟩), .string s] w fun e w' => e = .returned (.tuple #[.string (readB F1 s), .int .i64 (getE F1 s)]) ∧ Th w0 w' p1 F1 p2 F2 p3 F3 := by
  have h0 := h
  obtain ⟨X1, X2, X3, h⟩ := h
  exact (read_calls X1 w p1 F1 h.a.ly s hm).mono fun e w' ⟨he, hg⟩ => ⟨he, h0.grow hg⟩
theorem Th.names (h : Th w0 w p1 F1 p2 F2 p3 F3) :
    Calls Try.prog 24 #[.pointer (some ⟨p1, 0, none⟩)] w fun e w' => ∃ v, e = .returned v ∧ w'.ownsRow w.heap.size 9 1 v F1.now.length (F1.now.map fun x => .string x.1) ∧ Gr w w' := by
  obtain ⟨X1, X2, X3, h⟩ := h
  exact names_calls X1 w p1 F1 h.a.ly (by have := h.a.ok.nlen; omega)
end
theorem three_new (n1 n2 n3 : Int) {w w1 w2 w3 : World} {p1 p2 p3 : Nat} (a : Well (Aft (fun _ => False) w w1) w1 p1 (newF n1)) (g1 : Gr w w1) (b : Well (Aft (fun _ => False) w1 w2) w2 p2 (newF n2)) (g2 : Gr w1 w2) (c : Well (Aft (fun _ => False) w2 w3) w3 p3 (newF n3)) (g3 : Gr w2 w3) :
    Th w w3 p1 (newF n1) p2 (newF n2) p3 (newF n3) := by
  have h1 := g1.size; have h2 := g2.size
  refine ⟨_, _, _, (a.gr g2).gr g3, b.gr g3, c, fun k x z => ?_, fun k x z => ?_, fun k x z => ?_, (g1.tr g2).tr g3, fun k x => ?_, fun k x => ?_, fun k x => ?_⟩
  all_goals
    (try have x1 := x.resolve_left id)
    (try have z1 := z.resolve_left id)
    omega
end Go.Proofs.Ytdopmcepfacdlaa
