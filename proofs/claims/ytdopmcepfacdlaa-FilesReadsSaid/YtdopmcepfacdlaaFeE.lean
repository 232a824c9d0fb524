/- One folder beside blocks Y that it does not touch. -/
import Derived.Test.YtdopmcepfacdlaaFeC
namespace Go.Proofs.Ytdopmcepfacdlaa
open Go.RowKit Go.Maps

def OneY (w0 w : World) (p : Nat) (F : Fd) (Y : Nat → Prop) : Prop := ∃ X, Well X w p F ∧ Gr w0 w ∧ (∀ k, X k → w0.heap.size ≤ k) ∧ (∀ k, Y k → w0.heap.size ≤ k ∧ k < w.heap.size ∧ ¬ X k)
/-- What stays of the blocks Y. -/
def Kept (Y : Nat → Prop) (w w' : World) : Prop := ∀ k, Y k → w'.heap[k]? = w.heap[k]?
section
variable {w0 w w' : World} {p : Nat} {F F' : Fd} {X Y : Nat → Prop}
theorem OneY.gr (h : OneY w0 w p F Y) : Gr w0 w := by obtain ⟨X, _, h, _⟩ := h; exact h
theorem OneY.ok (h : OneY w0 w p F Y) : F.Ok := by obtain ⟨X, h, _⟩ := h; exact h.ok
theorem OneY.grow (h : OneY w0 w p F Y) (hg : Gr w w') : OneY w0 w' p F Y ∧ Kept Y w w' := by
  obtain ⟨X, h1, h2, h3, h4⟩ := h
  exact ⟨⟨X, h1.gr hg, h2.tr hg, h3, fun k hk => ⟨(h4 k hk).1, Nat.lt_of_lt_of_le (h4 k hk).2.1 hg.size, (h4 k hk).2.2⟩⟩, fun k hk => hg.block k (h4 k hk).2.1⟩
theorem OneY.turn (hg : Gr w0 w) (hn : ∀ k, X k → w0.heap.size ≤ k) (hy : ∀ k, Y k → w0.heap.size ≤ k ∧ k < w.heap.size ∧ ¬ X k) (hw : Well (Aft X w w') w' p F') (hb : Bt X w w') : OneY w0 w' p F' Y ∧ Kept Y w w' :=
  ⟨⟨_, hw, hb.gr hg hn, fun k hk => hk.elim (hn k) (fun z => Nat.le_trans hg.size z.1), fun k hk => ⟨(hy k hk).1, Nat.lt_of_lt_of_le (hy k hk).2.1 hb.size, fun z => z.elim (hy k hk).2.2 (fun z => by have := (hy k hk).2.1; omega)⟩⟩, fun k hk => hb.block k (hy k hk).2.1 (hy k hk).2.2⟩
/-- A store into a block of Y. -/
theorem OneY.set (h : OneY w0 w p F Y) {b o : Nat} (v : Value) (hb : Y b) : OneY w0 (w.setCell ⟨b, o, none⟩ v) p F Y := by
  obtain ⟨X, h1, h2, h3, h4⟩ := h
  have hB : Bt (fun k => k = b) w (w.setCell ⟨b, o, none⟩ v) := Bt.row (grown_set w b o v) rfl
  exact ⟨X, h1.bt hB (fun k hk z => (h4 b hb).2.2 (by rw [← z]; exact hk)), hB.gr h2 (fun k z => by rw [z]; exact (h4 b hb).1), h3, fun k hk => ⟨(h4 k hk).1, Nat.lt_of_lt_of_le (h4 k hk).2.1 hB.size, (h4 k hk).2.2⟩⟩
/-- A new block joins Y. -/
theorem OneY.join (h : OneY w0 w p F Y) (o : Obj) : OneY w0 (w.alloc o) p F (fun k => Y k ∨ k = w.heap.size) ∧ Kept Y w (w.alloc o) := by
  have hg : Gr w (w.alloc o) := Gr.al Gr.rfl' o
  have hs : (w.alloc o).heap.size = w.heap.size + 1 := by simp
  obtain ⟨X, h1, h2, h3, h4⟩ := h
  refine ⟨⟨X, h1.gr hg, h2.tr hg, h3, fun k hk => ?_⟩, fun k hk => hg.block k (h4 k hk).2.1⟩
  rcases hk with hk | rfl
  · have := h4 k hk
    exact ⟨this.1, by omega, this.2.2⟩
  · exact ⟨h2.size, by omega, fun z => by have := h1.ly.xlt _ z; omega⟩
theorem OneY.sub {Z : Nat → Prop} (h : OneY w0 w p F Y) (hz : ∀ k, Z k → Y k) : OneY w0 w p F Z := by
  obtain ⟨X, h1, h2, h3, h4⟩ := h
  exact ⟨X, h1, h2, h3, fun k hk => h4 k (hz k hk)⟩
theorem One.y (h : One w0 w p F) : OneY w0 w p F (fun _ => False) := by
  obtain ⟨X, h1, h2, h3⟩ := h
  exact ⟨X, h1, h2, h3, fun k hk => hk.elim⟩
theorem OneY.create (h : OneY w0 w p F Y) (hsl : F.since.length ≤ 1000) (s : ByteArray) (hm : s.size ≤ maxLen) :
    Calls Try.prog 12 #[.pointer (some ⟨p, 0, none⟩), .string s] w fun e w' => e = .returned (.int .i64 (createE F s)) ∧ Kept Y w w' ∧ ((okC F s ∧ ∃ n, ¬ F.has n ∧ OneY w0 w' p (createF F s n) Y) ∨ (¬ okC F s ∧ OneY w0 w' p F Y)) := by
  obtain ⟨X, h1, h2, h3, h4⟩ := h
  refine (wcreate X w p F h1 hsl s hm).mono ?_
  rintro e w' (⟨hk, n, hn, he, hw, hb⟩ | ⟨hno, he, hw, hb⟩)
  · obtain ⟨a, b⟩ := OneY.turn h2 h3 h4 hw hb
    exact ⟨he, b, .inl ⟨hk, n, hn, a⟩⟩
  · obtain ⟨a, b⟩ := OneY.turn h2 h3 h4 hw hb
    exact ⟨he, b, .inr ⟨hno, a⟩⟩
theorem OneY.append (h : OneY w0 w p F Y) (s t : ByteArray) (hm : s.size ≤ maxLen) (ht : t.size ≤ 1000000) :
    Calls Try.prog 15 #[.pointer (some ⟨p, 0, none⟩), .string s, .string t] w fun e w' => e = .returned (.int .i64 (appE F s t)) ∧ OneY w0 w' p (appF F s t) Y ∧ Kept Y w w' := by
  obtain ⟨X, h1, h2, h3, h4⟩ := h
  exact (wappend X w p F h1 s t hm ht).mono fun e w' ⟨he, hw, hb⟩ => ⟨he, OneY.turn h2 h3 h4 hw hb⟩
theorem OneY.delete (h : OneY w0 w p F Y) (hsl : F.since.length ≤ 1000) (s : ByteArray) (hm : s.size ≤ maxLen) :
    Calls Try.prog 23 #[.pointer (some ⟨p, 0, none⟩), .string s] w fun e w' => e = .returned (.int .i64 (deleteE F s)) ∧ OneY w0 w' p (deleteF F s) Y ∧ Kept Y w w' := by
  obtain ⟨X, h1, h2, h3, h4⟩ := h
  exact (wdelete X w p F h1 hsl s hm).mono fun e w' ⟨he, hw, hb⟩ => ⟨he, OneY.turn h2 h3 h4 hw hb⟩
theorem OneY.rename (h : OneY w0 w p F Y) (hsl : F.since.length ≤ 1000) (s t : ByteArray) (hm : s.size ≤ maxLen) (hmt : t.size ≤ maxLen) :
    Calls Try.prog 22 #[.pointer (some ⟨p, 0, none⟩), .string s, .string t] w fun e w' => e = .returned (.int .i64 (renameE F s t)) ∧ OneY w0 w' p (renameF F s t) Y ∧ Kept Y w w' := by
  obtain ⟨X, h1, h2, h3, h4⟩ := h
  exact (wrename X w p F h1 hsl s t hm hmt).mono fun e w' ⟨he, hw, hb⟩ => ⟨he, OneY.turn h2 h3 h4 hw hb⟩
theorem OneY.read (h : OneY w0 w p F Y) (s : ByteArray) (hm : s.size ≤ maxLen) :
    Calls Try.prog 18 #[.pointer (some ⟨p, 0, none⟩), .string s] w fun e w' => e = .returned (.tuple #[.string (readB F s), .int .i64 (getE F s)]) ∧ OneY w0 w' p F Y ∧ Kept Y w w' := by
  have h0 := h
  obtain ⟨X, h1, h2, h3, h4⟩ := h
  exact (read_calls X w p F h1.ly s hm).mono fun e w' ⟨he, hg⟩ => ⟨he, h0.grow hg⟩
theorem OneY.names (h : OneY w0 w p F Y) :
    Calls Try.prog 24 #[.pointer (some ⟨p, 0, none⟩)] w fun e w' => ∃ v, e = .returned v ∧ w'.ownsRow w.heap.size 9 1 v F.now.length (F.now.map fun x => .string x.1) ∧ OneY w0 w' p F Y ∧ Kept Y w w' := by
  have h0 := h
  obtain ⟨X, h1, h2, h3, h4⟩ := h
  exact (names_calls X w p F h1.ly (by have := h1.ok.nlen; omega)).mono fun e w' ⟨v, he, ho, hg⟩ => ⟨v, he, ho, h0.grow hg⟩
end
end Go.Proofs.Ytdopmcepfacdlaa
