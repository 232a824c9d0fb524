/- Two buffers beside a list of records. -/
import Derived.Test.YtnneebdcaefgoaaCbL
namespace Go.Proofs.Ytnneebdcaefgoaa
open Go.RowKit Go.Maps
attribute [local go_sem] max2_mx min2_mn max_two' min_two'

set_option maxHeartbeats 1000000 in
theorem new_x (room : Int) (v : Value) (l : List Int) (w : World) (hv : rdRow w 1 v l.length (encI l)) (hk : l.length ≤ 1000000) :
    Calls Try.prog 10 #[.int .i64 room, v] w fun e w' => ∃ p, e = .returned (.pointer (some ⟨p, 0, none⟩)) ∧ w.heap.size ≤ p ∧ BufX (fun k => Fresh w k ∨ k = p) w' p none (bufNew room l) ∧ Gr w w' := by
  have hnil : rdRow w 1 (.slice none 0 0) ([] : List Int).length (encI []) := ⟨rfl, none, 0, rfl, Nat.le_refl _, fun h => by simp at h⟩
  have H := Lib.hid (join_calls v (.slice none 0 0) l [] w hv hnil hk (by simp))
  clear hv hnil
  go_enter Try.func10, Try.ntmps10
  go_wp2_with fail
  refine H.out.mono ?_
  rintro e w1 ⟨v1, rfl, ho, hb⟩
  have Ho := Lib.hid ho; have Hb := Lib.hid hb
  obtain ⟨⟨_, a1, c1, rfl, _⟩, _⟩ := ho
  clear hb
  go_wp2_with fail
  go_ret
  exact ⟨w1.heap.size, rfl, Hb.out.size, ⟨by simp, (fun b e => by cases e), _, fun _ _ => none, heap_alloc_new w1 _, (Ho.out.wid (Y := fun k => Fresh w k ∨ k = w1.heap.size) (fun k hk => hk.imp id (fun e => by omega))).gr (Gr.al Gr.rfl' _), .inl ⟨rfl, rfl, fun _ _ => rfl⟩, fun s q => ⟨fun _ => rfl, fun r e => by cases e⟩⟩, Gr.al Hb.out _⟩
structure Two (w wr : World) (p1 : Nat) (mb1 : Option Nat) (B1 : Buf) (p2 : Nat) (mb2 : Option Nat) (B2 : Buf) (v : Value) (L : List (Rec × Value)) : Prop where
  gr : Gr w wr
  b1 : BufE (BX p2 mb2) wr p1 mb1 B1
  b2 : BufE (BX p1 mb1) wr p2 mb2 B2
  dis : ∀ k, BX p1 mb1 k → ¬ BX p2 mb2 k
  row : wr.ownsRow w.heap.size 33 9 v L.length (encR L)
  rx : ∀ k, v.ownBlock = some k → ¬ BX p1 mb1 k ∧ ¬ BX p2 mb2 k
  deps : ∀ x ∈ L, rdX (fun k => BX p1 mb1 k ∨ BX p2 mb2 k) wr x.2 x.1.d
  n1 : ∀ k, BX p1 mb1 k → w.heap.size ≤ k
  n2 : ∀ k, BX p2 mb2 k → w.heap.size ≤ k
variable {w wr w' : World} {p1 p2 : Nat} {mb1 mb2 : Option Nat} {B1 B2 : Buf} {v : Value} {L : List (Rec × Value)}
theorem Two.swap (h : Two w wr p1 mb1 B1 p2 mb2 B2 v L) : Two w wr p2 mb2 B2 p1 mb1 B1 v L :=
  ⟨h.gr, h.b2, h.b1, fun k a b => h.dis k b a, h.row, fun k e => ⟨(h.rx k e).2, (h.rx k e).1⟩, fun x hx => (h.deps x hx).mono (fun k hk => hk.symm), h.n2, h.n1⟩
theorem Two.grow (h : Two w wr p1 mb1 B1 p2 mb2 B2 v L) (hg : Gr wr w') : Two w w' p1 mb1 B1 p2 mb2 B2 v L :=
  ⟨h.gr.tr hg, BufX.gr' h.b1 hg, BufX.gr' h.b2 hg, h.dis, own_gr h.row hg, h.rx, fun x hx => (h.deps x hx).gr hg, h.n1, h.n2⟩
theorem Two.lt1 (h : Two w wr p1 mb1 B1 p2 mb2 B2 v L) : ∀ k, BX p1 mb1 k → k < wr.heap.size := fun k hk => by
  rcases hk with rfl | hk
  · exact h.b1.1
  · exact (h.b1.2.1 _ hk).1
theorem Two.turn (h : Two w wr p1 mb1 B1 p2 mb2 B2 v L) {mb1' : Option Nat} {B1' : Buf} (h1 : BufE (BX p2 mb2) w' p1 mb1' B1') (hb : Bt (BX p1 mb1) wr w') (hm : SameMap wr mb1 mb1') : Two w w' p1 mb1' B1' p2 mb2 B2 v L := by
  obtain ⟨g1, g2⟩ := other (p1 := p1) (mb1' := mb1') (BufX.wid h.b2 (fun k hk => .inl hk.symm)) hb hm h.dis
  have hsub : ∀ k, BX p1 mb1' k → BX p1 mb1 k ∨ wr.heap.size ≤ k := fun k hk => by
    rcases hm with rfl | ⟨_, b, rfl, hbz⟩
    · exact .inl hk
    · rcases hk with hk | hk
      · exact .inl (.inl hk)
      · injection hk with hk; exact .inr (by omega)
  refine ⟨hb.gr h.gr h.n1, h1, BufX.wid g1 (fun k hk => .inl hk.symm), g2, own_bt h.row hb (fun k e => (h.rx k e).1), fun k e => ⟨fun z => ?_, (h.rx k e).2⟩, fun x hx => ?_, newer h.n1 hm h.gr.size, h.n2⟩
  · rcases hsub k z with z | z
    · exact (h.rx k e).1 z
    · have := (h.row.lt k e).2; omega
  · refine (((h.deps x hx).wid (Y := fun k => (BX p1 mb1 k ∨ BX p2 mb2 k) ∨ wr.heap.size ≤ k) (fun k hk => hk)).bt hb (fun k hk => .inl (.inl hk))).mono (fun k hk => ?_)
    rcases hk with hk | hk
    · exact (hsub k hk).imp .inl id
    · exact .inl (.inr hk)
theorem Two.offer (h : Two w wr p1 mb1 B1 p2 mb2 B2 v L) {r : Rec} {e : Ending} (hO : OfferPost (BX p2 mb2) wr p1 mb1 B1 r e w') : e = .returned (.int .i64 (offN B1 r)) ∧ ∃ mb1', Two w w' p1 mb1' (offB B1 r) p2 mb2 B2 v L := by
  obtain ⟨he, mb', h1, h2, h3, _⟩ := hO
  exact ⟨he, mb', h.turn h1 h2 h3⟩
/-- What Next does to the first of two. -/
def TwoNext (w wr w' : World) (p1 : Nat) (mb1 : Option Nat) (B1 : Buf) (p2 : Nat) (mb2 : Option Nat) (B2 : Buf) (v : Value) (L : List (Rec × Value)) (e : Ending) : Option (Nat × Rec) → Prop
  | some (k, r) => ∃ a c, e = .returned (.tuple #[recV r (.slice a r.d.length c), .bool true]) ∧ rdX (fun b => BX p1 mb1 b ∨ BX p2 mb2 b) w' (.slice a r.d.length c) r.d ∧ Two w w' p1 mb1 (takeB B1 k r) p2 mb2 B2 v L ∧ Bt (BX p1 mb1) wr w'
  | none => e = .returned (.tuple #[recV noRec (.slice none 0 0), .bool false]) ∧ Two w w' p1 mb1 B1 p2 mb2 B2 v L ∧ Gr wr w'
theorem Two.next (h : Two w wr p1 mb1 B1 p2 mb2 B2 v L) {e : Ending} (hN : NextPost (BX p2 mb2) wr p1 mb1 B1 e w') : TwoNext w wr w' p1 mb1 B1 p2 mb2 B2 v L e (nextAll B1) := by
  have h1 := next_is hN
  cases hn : nextAll B1 with
  | none =>
    rw [hn] at h1
    exact ⟨h1.1, h.grow h1.2, h1.2⟩
  | some kr =>
    obtain ⟨k, r⟩ := kr
    rw [hn] at h1
    obtain ⟨d, he, h2, h3, h4⟩ := h1
    obtain ⟨⟨_, a, c, rfl, _⟩, _⟩ := id h2
    exact ⟨a, c, he, h2, h.turn h3 h4 (.inl rfl), h4⟩
theorem nextAll_some {B : Buf} {k : Nat} {r : Rec} (h : nextAll B = some (k, r)) : k < 8 ∧ nextOf B k = some r := by
  unfold nextAll at h
  rw [List.findSome?_eq_some_iff] at h
  obtain ⟨l1, j, l2, e1, e2, _⟩ := h
  have hj : j ∈ List.range 8 := by rw [e1]; simp
  cases hf : nextOf B j with
  | none => rw [hf] at e2; cases e2
  | some x =>
    rw [hf] at e2
    simp at e2
    obtain ⟨rfl, rfl⟩ := e2
    exact ⟨List.mem_range.1 hj, hf⟩
theorem nextAll_ne {B : Buf} {s : Nat} (hs : s < 8) (h : nextOf B s ≠ none) : nextAll B ≠ none := fun z => by
  unfold nextAll at z
  rw [List.findSome?_eq_none_iff] at z
  have := z s (List.mem_range.2 hs)
  simp at this
  exact h this
theorem nextAll_congr {B B' : Buf} (ho : B.out = B'.out) (hf : ∀ s q, B.f s q = B'.f s q) : nextAll B = nextAll B' := by
  have e : ∀ s, nextOf B s = nextOf B' s := fun s => by unfold nextOf; rw [ho, hf]
  unfold nextAll
  simp only [e]
end Go.Proofs.Ytnneebdcaefgoaa
