/- The package's buffer beside the reference's: what lies where; what both hold. -/
import Derived.Test.YtnneebdcaefgoaaCcG
namespace Go.Proofs.Ytnneebdcaefgoaa
open Go.RowKit Go.Maps

structure PlayW (w wr : World) (p1 : Nat) (mb : Option Nat) (B : Buf) (p2 : Nat) (most : Int) (out : List Int) (v2 : Value) (L : List (Rec × Value)) : Prop where
  gr : Gr w wr
  b : BufE (LX p2 v2) wr p1 mb B
  r : RefE (BX p1 mb) wr p2 w.heap.size most out v2 L
  dis : ∀ k, BX p1 mb k → ¬ LX p2 v2 k
  n1 : ∀ k, BX p1 mb k → w.heap.size ≤ k
section
variable {w wr w' : World} {p1 : Nat} {mb mb' : Option Nat} {B B' : Buf} {p2 : Nat} {most : Int} {out out' : List Int} {v2 v2' : Value} {L L' : List (Rec × Value)}
theorem PlayW.lt1 (h : PlayW w wr p1 mb B p2 most out v2 L) : ∀ k, BX p1 mb k → k < wr.heap.size := fun k hk => by
  rcases hk with rfl | hk
  · exact h.b.1
  · exact (h.b.2.1 _ hk).1
theorem PlayW.lt2 (h : PlayW w wr p1 mb B p2 most out v2 L) : ∀ k, LX p2 v2 k → k < wr.heap.size := fun k hk => (h.r.lt k hk).2
theorem PlayW.grow (h : PlayW w wr p1 mb B p2 most out v2 L) (hg : Gr wr w') : PlayW w w' p1 mb B p2 most out v2 L :=
  ⟨h.gr.tr hg, BufX.gr' h.b hg, h.r.gr' hg, h.dis, h.n1⟩
theorem PlayW.turnB (h : PlayW w wr p1 mb B p2 most out v2 L) (h1 : BufE (LX p2 v2) w' p1 mb' B') (hb : Bt (BX p1 mb) wr w') (hm : SameMap wr mb mb') : PlayW w w' p1 mb' B' p2 most out v2 L := by
  have hsub : ∀ k, BX p1 mb' k → BX p1 mb k ∨ wr.heap.size ≤ k := fun k hk => by
    rcases hm with rfl | ⟨_, b, rfl, hbz⟩
    · exact .inl hk
    · rcases hk with hk | hk
      · exact .inl (.inl hk)
      · injection hk with hk; exact .inr (by omega)
  have hdis : ∀ k, BX p1 mb' k → ¬ LX p2 v2 k := fun k hk hz => by
    rcases hsub k hk with h5 | h5
    · exact h.dis k h5 hz
    · have := h.lt2 k hz; omega
  refine ⟨hb.gr h.gr h.n1, h1, ?_, hdis, newer h.n1 hm h.gr.size⟩
  refine ((h.r.wid (Y := fun k => (LX p2 v2 k ∨ BX p1 mb k) ∨ wr.heap.size ≤ k) (fun k hk => hk)).bt hb (fun k hk => .inl (.inr hk)) (fun e => h.dis _ e (.inl rfl)) (fun b e z => h.dis _ z (.inr e))).wid (fun k hk => .inl ?_)
  rcases hk with hk | hk
  · exact .inl (.inl hk)
  · exact (hsub k hk).imp .inr id
theorem PlayW.turnR (h : PlayW w wr p1 mb B p2 most out v2 L) (h1 : RefE (BX p1 mb) w' p2 w.heap.size most out' v2' L') (hb : Bt (LX p2 v2) wr w') (hv : ∀ b, v2'.ownBlock = some b → v2.ownBlock = some b ∨ wr.heap.size ≤ b) : PlayW w w' p1 mb B p2 most out' v2' L' := by
  have hsub : ∀ k, LX p2 v2' k → LX p2 v2 k ∨ wr.heap.size ≤ k := fun k hk => by
    rcases hk with hk | hk
    · exact .inl (.inl hk)
    · exact (hv k hk).imp .inr id
  have hdis : ∀ k, BX p1 mb k → ¬ LX p2 v2' k := fun k hk hz => by
    rcases hsub k hz with h5 | h5
    · exact h.dis k hk h5
    · have := h.lt1 k hk; omega
  refine ⟨hb.gr h.gr (fun k hk => (h.r.lt k hk).1), ?_, h1, hdis, h.n1⟩
  refine BufX.wid (BufX.bt (BufX.wid h.b (Y := fun k => (BX p1 mb k ∨ LX p2 v2 k) ∨ wr.heap.size ≤ k) (fun k hk => hk)) hb (fun k hk => .inl (.inr hk)) (fun k hk z => h.dis k z hk)) (fun k hk => .inl ?_)
  rcases hk with hk | hk
  · exact .inl (.inl hk)
  · exact (hsub k hk).imp .inr id
end
theorem joinV_nil (v : List Int) : joinV v [] = plainV v := vecOf_congr (fun i hi => by
  unfold joinF
  rw [at8_nil, mx_eq]
  have := (at8_nn v i).1
  omega)
/-- What both hold. -/
structure PlayP (B : Buf) (most : Int) (out : List Int) (l : List Rec) : Prop where
  inv : Inv B
  pair : Pair B most out l
  ok : ∀ r ∈ l, RecOk r
theorem Inv.newV (k : Int) (v : List Int) : Inv (bufNew k v) := by
  refine ⟨fun s q r e => (by cases e), fun s q r e => (by cases e), vecOf_le _, ?_, ?_, ?_⟩
  · show 0 ≤ roomOf k
    unfold roomOf mn mx; split <;> (try split) <;> omega
  · show roomOf k ≤ 400
    unfold roomOf mn mx; split <;> (try split) <;> omega
  · have : 0 ≤ roomOf k := by unfold roomOf mn mx; split <;> (try split) <;> omega
    show ((0 : Nat) : Int) ≤ roomOf k + _
    omega
theorem PlayP.new (k : Int) (v : List Int) : PlayP (bufNew k v) (roomOf k) (plainV v) [] :=
  ⟨Inv.newV k v, ⟨rfl, joinV_nil v, rfl, fun _ _ => rfl, List.Pairwise.nil⟩, fun r hr => by cases hr⟩
section
variable {B : Buf} {most : Int} {out : List Int} {l : List Rec}
theorem PlayP.len (h : PlayP B most out l) : l.length ≤ 1000 := by
  have h1 := h.inv.n; have := cnt_le B; have := h.inv.most; rw [h.pair.n] at h1; omega
theorem PlayP.out8 (h : PlayP B most out l) : out.length ≤ 8 := by rw [← h.pair.out]; exact h.inv.out
theorem PlayP.offer (h : PlayP B most out l) (r : Rec) : PlayP (offB B r) most out (if offR most out l r = 0 then l ++ [r] else l) := by
  refine ⟨?_, h.pair.offer r, ?_⟩
  · unfold offB
    split
    · rename_i h0; exact h.inv.put h0
    · exact h.inv
  · intro x hx
    split at hx
    · rename_i h0
      rcases List.mem_append.1 hx with hx | hx
      · exact h.ok x hx
      · rw [List.mem_singleton.1 hx]; exact (off0 ((h.pair.off r).trans h0)).1
    · exact h.ok x hx
theorem PlayP.next (h : PlayP B most out l) {k i : Nat} (hk : k < 8) (hi : i < l.length) (hr : rnextOf out l k = some i) (hn : nextOf B k = some l[i]) (hst : l[i].st = k) : PlayP (takeB B k l[i]) most (withV out k l[i].q) (l.eraseIdx i) :=
  ⟨h.inv.take hk hn, h.pair.take hi hst, fun x hx => h.ok x (List.mem_of_mem_eraseIdx hx)⟩
theorem lkR_mem (out : List Int) (l : List Rec) (n : Nat) (x : Int) : x ∈ lkR out l n ↔ ∃ k : Nat, k < n ∧ x = k ∧ lkOne out l k = true := by
  induction n with
  | zero => constructor
            · intro h; cases h
            · rintro ⟨k, hk, _⟩; omega
  | succ n ih =>
    unfold lkR
    rw [List.mem_append, ih]
    constructor
    · rintro (⟨k, hk, e, h⟩ | h)
      · exact ⟨k, by omega, e, h⟩
      · split at h
        · rename_i h1; exact ⟨n, by omega, List.mem_singleton.1 h, h1⟩
        · cases h
    · rintro ⟨k, hk, e, h⟩
      by_cases e2 : k = n
      · subst e2; right; rw [if_pos h]; exact List.mem_singleton.2 e
      · exact .inl ⟨k, by omega, e, h⟩
theorem lkR_lt (out : List Int) (l : List Rec) (n : Nat) : (lkR out l n).Pairwise (· < ·) := by
  induction n with
  | zero => exact List.Pairwise.nil
  | succ n ih =>
    unfold lkR
    rw [List.pairwise_append]
    refine ⟨ih, by split; exact List.pairwise_singleton _ _; exact List.Pairwise.nil, fun a ha b hb => ?_⟩
    obtain ⟨k, hk, rfl, _⟩ := (lkR_mem out l n a).1 ha
    split at hb
    · rw [List.mem_singleton.1 hb]; omega
    · cases hb
theorem keyF_mem {l : List Rec} (hu : l.Pairwise fun a b => ¬ (a.st = b.st ∧ a.q = b.q)) {r : Rec} (hr : r ∈ l) : (keyF l r.st r.q).isSome = true := by
  unfold keyF
  rw [List.find?_isSome]
  exact ⟨r, hr, by simp⟩
theorem PlayP.lacks (h : PlayP B most out l) : ∀ x, x ∈ lkR out l 8 ↔ ∃ q, I64 x ∧ I64 q ∧ (B.f x q).isSome = true ∧ B.f x (atV B.out x + 1) = none := by
  intro x
  rw [lkR_mem, h.pair.out]
  constructor
  · rintro ⟨k, hk, rfl, h1⟩
    unfold lkOne hasS at h1
    simp only [Bool.and_eq_true, List.any_eq_true, decide_eq_true_eq] at h1
    obtain ⟨⟨r, hr, hst⟩, h2⟩ := h1
    have hrng := recOk_rng (h.ok r hr)
    refine ⟨r.q, by unfold I64; omega, by unfold I64; unfold topN at hrng; omega, ?_, ?_⟩
    · rw [h.pair.f, ← hst]; exact keyF_mem h.pair.uniq hr
    · rw [h.pair.f]
      cases e : keyF l (k : Int) (atV out k + 1) with
      | none => rfl
      | some y =>
        have := findI_nn.2 (show (keyF l (k : Int) (atV out k + 1)).isSome = true by rw [e]; rfl)
        omega
  · rintro ⟨q, i1, i2, h1, h2⟩
    obtain ⟨r, hr⟩ := Option.isSome_iff_exists.1 h1
    have hok := h.inv.ok _ _ _ hr
    have hrng := recOk_rng hok
    obtain ⟨e1, e2⟩ := h.inv.own _ _ _ hr
    rw [h.pair.f] at hr h2
    obtain ⟨_, _, j, hj, ej⟩ := keyF_some hr
    refine ⟨x.toNat, by omega, by omega, ?_⟩
    have ex : ((x.toNat : Nat) : Int) = x := by omega
    unfold lkOne hasS
    rw [ex]
    simp only [Bool.and_eq_true, List.any_eq_true, decide_eq_true_eq]
    refine ⟨⟨r, by rw [← ej]; exact List.getElem_mem hj, e1⟩, ?_⟩
    by_cases h3 : 0 ≤ findI l x (atV out x + 1)
    · have := findI_nn.1 h3
      rw [h2] at this; cases this
    · omega
theorem PlayP.first {r : Rec} {k k' i : Nat} (h : PlayP B most out l) (hn : ∀ j : Nat, j < k → nextOf B j = none) (hs : nextOf B k = some r) (hn' : ∀ j : Nat, j < k' → rnextOf out l j = none) (hs' : rnextOf out l k' = some i) : k = k' ∧ ∃ hi : i < l.length, r = l[i] ∧ l[i].st = k := by
  have e : k = k' := by
    by_cases e1 : k < k'
    · rcases h.pair.next (k : Int) with ⟨_, z⟩ | ⟨i2, _, z, _⟩
      · rw [hs] at z; cases z
      · rw [hn' k e1] at z; cases z
    · by_cases e2 : k' < k
      · rcases h.pair.next (k' : Int) with ⟨z, _⟩ | ⟨i2, _, _, z, _⟩
        · rw [hs'] at z; cases z
        · rw [hn k' e2] at z; cases z
      · omega
  subst e
  refine ⟨rfl, ?_⟩
  rcases h.pair.next (k : Int) with ⟨z, _⟩ | ⟨i2, hi, z1, z2, z3, _⟩
  · rw [hs'] at z; cases z
  · rw [hs'] at z1; injection z1 with z1; subst z1
    rw [hs] at z2; injection z2 with z2
    exact ⟨hi, z2, z3⟩
theorem PlayP.none1 {r : Rec} {k : Nat} (h : PlayP B most out l) (hk : k < 8) (hs : nextOf B k = some r) (hn : ∀ j : Nat, j < 8 → rnextOf out l j = none) : False := by
  rcases h.pair.next (k : Int) with ⟨_, z⟩ | ⟨i2, _, z, _⟩
  · rw [hs] at z; cases z
  · rw [hn k hk] at z; cases z
theorem PlayP.none2 {k i : Nat} (h : PlayP B most out l) (hk : k < 8) (hs : rnextOf out l k = some i) (hn : ∀ j : Nat, j < 8 → nextOf B j = none) : False := by
  rcases h.pair.next (k : Int) with ⟨z, _⟩ | ⟨i2, _, _, z, _⟩
  · rw [hs] at z; cases z
  · rw [hn k hk] at z; cases z
theorem run_unique {B : Buf} {s m1 m2 : Int} (h1 : RunEnd B s m1) (h2 : RunEnd B s m2) : m1 = m2 := by
  by_cases e : m1 < m2
  · have := h2.2.2.1 (m1 + 1) (by have := h1.1; omega) (by omega)
    rw [h1.2.2.2] at this; cases this
  · by_cases e2 : m2 < m1
    · have := h1.2.2.1 (m2 + 1) (by have := h2.1; omega) (by omega)
      rw [h2.2.2.2] at this; cases this
    · omega
end
end Go.Proofs.Ytnneebdcaefgoaa
