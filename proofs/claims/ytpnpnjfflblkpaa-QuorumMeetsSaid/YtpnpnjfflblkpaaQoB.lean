/- QuorumOrder: each point with a number of its own; eight lists in an array; two reads beside each other. -/
import Derived.Test.YtpnpnjfflblkpaaQoA
import Derived.Test.YtpnpnjfflblkpaaQwQ
namespace Go.Proofs.Ytpnpnjfflblkpaa
open Go.RowKit Go.Maps Go.Sort Go.Shelf

def stP (i k : Nat) (p : Pt) : Pt := { p with q := 10 * (i : Int) + k }
def stL (i : Nat) (L : List Pt) (j : Nat) : List Pt := L.mapIdx fun k p => if k < j then stP i k p else p
theorem stL_len (i : Nat) (L : List Pt) (j : Nat) : (stL i L j).length = L.length := by unfold stL; simp
theorem stL_zero (i : Nat) (L : List Pt) : stL i L 0 = L := by
  unfold stL
  refine List.ext_getElem (by simp) fun k h1 h2 => ?_
  rw [List.getElem_mapIdx, if_neg (Nat.not_lt_zero _)]
theorem stL_get (i : Nat) (L : List Pt) (j k : Nat) (h : k < L.length) : (stL i L j)[k]'(by rw [stL_len]; exact h) = if k < j then stP i k L[k] else L[k] := by
  unfold stL; rw [List.getElem_mapIdx]
theorem stL_succ (i : Nat) (L : List Pt) (j : Nat) (h : j < L.length) : (stL i L j).set j (stP i j L[j]) = stL i L (j + 1) := by
  refine List.ext_getElem (by simp [stL_len]) fun k h1 h2 => ?_
  have hk : k < L.length := by rw [stL_len] at h2; exact h2
  rw [List.getElem_set, stL_get _ _ _ _ hk, stL_get _ _ _ _ hk]
  by_cases e : j = k
  · subst e; rw [if_pos rfl, if_pos (by omega)]
  · rw [if_neg e]
    by_cases h3 : k < j
    · rw [if_pos h3, if_pos (by omega)]
    · rw [if_neg h3, if_neg (by omega)]
theorem flat_set {α : Type} {enc : α → List Value} {k : Nat} (hk : ∀ x, (enc x).length = k) : ∀ (l : List α) (j m : Nat) (h : j < l.length) (v : Value) (y : α), enc y = (enc l[j]).set m v → m < k → (l.flatMap enc).set (j * k + m) v = (l.set j y).flatMap enc
  | [], j, m, h, _, _, _, _ => by simp at h
  | x :: r, 0, m, h, v, y, e, hm => by
    rw [List.set_cons_zero, List.flatMap_cons, List.flatMap_cons, e, Nat.zero_mul, Nat.zero_add, List.set_append_left _ _ (by rw [hk]; exact hm)]
    rfl
  | x :: r, j + 1, m, h, v, y, e, hm => by
    have ih := flat_set hk r j m (by simpa using h) v y (by simpa using e) hm
    have e1 : (j + 1) * k = k + j * k := by rw [Nat.add_mul, Nat.one_mul, Nat.add_comm]
    rw [List.set_cons_succ, List.flatMap_cons, List.flatMap_cons, List.set_append_right _ _ (by rw [hk, e1]; omega), hk, ← ih]
    congr 2
    rw [e1]; omega
theorem st_cells (i : Nat) (L : List Pt) (j : Nat) (h : j < L.length) : (encP (stL i L j)).set (j * 6 + 5) (.int .i64 (10 * (i : Int) + j)) = encP (stL i L (j + 1)) := by
  have h' : j < (stL i L j).length := by rw [stL_len]; exact h
  rw [← stL_succ i L j h]
  refine flat_set (enc := ptC) (fun _ => rfl) (stL i L j) j 5 h' _ _ ?_ (by decide)
  rw [stL_get _ _ _ _ h, if_neg (Nat.lt_irrefl _)]
  rfl
/-- One cell of a row of the call's own is set anew. -/
theorem own_cell1 {w : World} {base e k n g c j : Nat} {xs : List Value} (v : Value) (h : w.ownsRow base e k (.slice (some ⟨g, 0, none⟩) n c) n xs) (hj : j < n * k) :
    (w.setCell ⟨g, j, none⟩ v).ownsRow base e k (.slice (some ⟨g, 0, none⟩) n c) n (xs.set j v) ∧ w.grownBy (w.setCell ⟨g, j, none⟩ v) (some g) ∧ (∃ u, w.cell? ⟨g, j, none⟩ = some u) ∧ w.frozen? ⟨g, j, none⟩ = false ∧ base ≤ g := by
  rcases h.2 with ⟨h2, _⟩ | ⟨g', cap, cur, hv, hb, hg, hn, hm, hs, ht⟩
  · cases h2
  · simp only [Value.slice.injEq, Option.some.injEq, Addr.mk.injEq] at hv
    obtain ⟨⟨rfl, _⟩, _, rfl⟩ := hv
    have hle : n * k ≤ cur.size := by rw [hs]; exact Nat.mul_le_mul_right _ hn
    have hlt : j < cur.size := by omega
    have h1 := heap_setCell_same w g j cur e v hg
    refine ⟨⟨by rw [List.length_set]; exact h.1, .inr ⟨g, c, _, rfl, hb, h1, hn, hm, by simp [hs], ?_⟩⟩, grown_set w g j v, ?_, frozen_of_row w g j _ _ hg, hb⟩
    · rw [← ht]
      simp [List.take_set]
    · rw [cell_of_row w g j cur e (0, 0) hg]
      exact ⟨_, Array.getElem?_eq_getElem hlt⟩
theorem own_some {w : World} {base e k n c : Nat} {a : Option Addr} {xs : List Value} (h : w.ownsRow base e k (.slice a n c) n xs) (h0 : 0 < n) : ∃ g, a = some ⟨g, 0, none⟩ := by
  rcases h.2 with ⟨_, h2⟩ | ⟨g, cap, cur, hv, _⟩
  · omega
  · injection hv with e1
    exact ⟨g, e1⟩
/-- Eight lists in an array, as they are read. -/
structure GotAt (w : World) (A : Nat) (f : Nat → Value) (G : Nat → List Pt) : Prop where
  arr : ∀ m, m < 8 → w.cell? ⟨A, m, none⟩ = some (f m) ∧ w.frozen? ⟨A, m, none⟩ = false
  row : ∀ m, m < 8 → rdO A w 6 (f m) (G m).length (encP (G m))
section
variable {w w' : World} {A : Nat} {f : Nat → Value} {G : Nat → List Pt}
theorem GotAt.gr (h : GotAt w A f G) (hg : Gr w w') : GotAt w' A f G :=
  ⟨fun m hm => ⟨keepc hg (h.arr m hm).1, keepf hg (h.arr m hm).1 (h.arr m hm).2⟩, fun m hm => (h.row m hm).gr hg⟩
theorem GotAt.btm (h : GotAt w A f G) {X : Nat → Prop} (hb : Bt X w w') (hX : ∀ b, X b → ∃ es c, w.heap[b]? = some (.map es c)) : GotAt w' A f G :=
  have hn : ¬ X A := fun hx => map_ne_row (hX _ hx) (h.arr 0 (by decide)).1 rfl
  ⟨fun m hm => ⟨hb.cell hn (h.arr m hm).1, frozen_bt hb hn (h.arr m hm).1 (h.arr m hm).2⟩, fun m hm => ⟨rd_map (h.row m hm).1 hb hX, (h.row m hm).2⟩⟩
theorem got_new {cs : Array Value} {T : TypeId} (hb : w.heap[A]? = some (.cells cs T (0, 0))) (hc : ∀ m, m < 8 → cs[m]? = some (.slice none 0 0)) : GotAt w A (fun _ => .slice none 0 0) (fun _ => []) :=
  ⟨fun m hm => ⟨(cell_of_row w A m _ _ _ hb).trans (hc m hm), frozen_of_row w A m _ _ hb⟩, fun m hm => ⟨rd_nil', fun a n c e => by cases e⟩⟩
theorem GotAt.put (h : GotAt w A f G) {m : Nat} (hm : m < 8) {v : Value} {L : List Pt} (hv : rdO A w 6 v L.length (encP L)) :
    GotAt (w.setCell ⟨A, m, none⟩ v) A (fun k => if k = m then v else f k) (fun k => if k = m then L else G k) := by
  have hb := bt_set w A m v
  refine ⟨fun k hk => ⟨?_, by rw [World.frozen?_setCell]; exact (h.arr k hk).2⟩, fun k hk => ?_⟩
  · by_cases e : k = m
    · subst e
      rw [World.cell?_setCell_same _ _ _ (h.arr k hk).1]; simp
    · rw [World.cell?_setCell_other _ ⟨A, m, none⟩ ⟨A, k, none⟩ _ (off_ne (by omega)), (h.arr k hk).1]; simp [e]
  · by_cases e : k = m
    · subst e
      simp only [if_true]
      exact hv.bt hb (fun _ e => e)
    · simp only [if_neg e]
      exact (h.row k hk).bt hb (fun _ e => e)
end
/-- The lists: of each of the first i its points, numbered. -/
structure StG (G : Nat → List Pt) (i : Nat) : Prop where
  len : ∀ m, (G m).length ≤ 10
  num : ∀ m k (h : k < (G m).length), (G m)[k].q = 10 * (m : Int) + k
  nil : ∀ m, i ≤ m → G m = []
theorem StG.zero : StG (fun _ => []) 0 := ⟨fun _ => Nat.zero_le _, fun _ _ h => absurd h (Nat.not_lt_zero _), fun _ _ => rfl⟩
theorem StG.put {G : Nat → List Pt} {i : Nat} (h : StG G i) {L : List Pt} (hL : L.length ≤ 10) : StG (fun k => if k = i then stL i L L.length else G k) (i + 1) := by
  refine ⟨fun m => ?_, fun m k hk => ?_, fun m hm => ?_⟩
  · by_cases e : m = i
    · simp only [if_pos e]; rw [stL_len]; exact hL
    · simp only [if_neg e]; exact h.len m
  · by_cases e : m = i
    · subst e
      simp only [if_true] at hk ⊢
      have hk' : k < L.length := by rw [stL_len] at hk; exact hk
      rw [stL_get _ _ _ _ hk', if_pos hk']; rfl
    · simp only [if_neg e] at hk ⊢
      exact h.num m k hk
  · have e : m ≠ i := by omega
    simp only [if_neg e]
    exact h.nil m (by omega)
theorem StG.alike {G : Nat → List Pt} {n : Nat} (h : StG G n) {a b : Nat} {x y : Pt} (hx : x ∈ G a) (hy : y ∈ G b) (e : x.q = y.q) : x = y := by
  obtain ⟨k, hk, rfl⟩ := List.getElem_of_mem hx
  obtain ⟨l, hl, rfl⟩ := List.getElem_of_mem hy
  have h1 := h.num a k hk; have h2 := h.num b l hl
  have h3 := h.len a; have h4 := h.len b
  have hab : a = b := by omega
  subst hab
  have hkl : k = l := by omega
  subst hkl
  rfl
def N8 : List Int := [0, 1, 2, 3, 4, 5, 6, 7]
def N8r : List Int := [7, 6, 5, 4, 3, 2, 1, 0]
theorem nodes8 : nodesOf N8 = N8 := by decide
theorem nodes8r : nodesOf N8r = N8 := by decide
theorem mem8 {k : Int} : k ∈ N8 ↔ 0 ≤ k ∧ k < 8 := by
  unfold N8; simp; omega
def upA (i : Nat) : List Int := (List.range i).map Int.ofNat
def dnA (n i : Nat) : List Int := (List.range i).map fun (j : Nat) => (n : Int) - 1 - (j : Int)
theorem mem_up {i : Nat} {k : Int} : k ∈ upA i ↔ 0 ≤ k ∧ k < i := by
  unfold upA
  rw [List.mem_map]
  constructor
  · rintro ⟨a, ha, rfl⟩
    have := List.mem_range.1 ha
    simp only [Int.ofNat_eq_natCast]; omega
  · intro h
    exact ⟨k.toNat, List.mem_range.2 (by omega), by simp only [Int.ofNat_eq_natCast]; omega⟩
theorem mem_dn {n i : Nat} {k : Int} : k ∈ dnA n i ↔ (n : Int) - i ≤ k ∧ k < n := by
  unfold dnA
  rw [List.mem_map]
  constructor
  · rintro ⟨a, ha, rfl⟩
    have := List.mem_range.1 ha
    omega
  · intro h
    exact ⟨((n : Int) - 1 - k).toNat, List.mem_range.2 (by omega), by omega⟩
theorem up_succ (i : Nat) : upA i ++ [(i : Int)] = upA (i + 1) := by unfold upA; rw [List.range_succ, List.map_append]; rfl
theorem dn_succ (n i : Nat) : dnA n i ++ [(n : Int) - 1 - i] = dnA n (i + 1) := by unfold dnA; rw [List.range_succ, List.map_append]; rfl
theorem up_len (i : Nat) : (upA i).length = i := by unfold upA; simp
theorem dn_len (n i : Nat) : (dnA n i).length = i := by unfold dnA; simp
theorem ack_up {i : Nat} (h : i < 8) : ackB N8 (upA i) i := ⟨mem8.2 (by omega), fun z => by have := mem_up.1 z; omega⟩
theorem ack_dn {n i : Nat} (hn : n ≤ 8) (h : i < n) : ackB N8 (dnA n i) ((n : Int) - 1 - i) := ⟨mem8.2 (by omega), fun z => by have := mem_dn.1 z; omega⟩
/-- What is known of those that have answered. -/
def glO (G : Nat → List Pt) (H : List Int) (k : Int) : List Pt := if k ∈ H then sortP (G k.toNat) else []
theorem glO_nil (G : Nat → List Pt) : glO G [] = fun _ => [] := by funext k; exact if_neg (by simp)
theorem glO_snoc {G : Nat → List Pt} {H : List Int} {n : Int} {m : Nat} (hm : n.toNat = m) (ha : ackB N8 H n) : (fun k => if k = n ∧ ackB N8 H n then sortP (G m) else glO G H k) = glO G (H ++ [n]) := by
  funext k
  unfold glO
  by_cases e : k = n
  · subst e
    rw [if_pos ⟨rfl, ha⟩, if_pos (by simp), hm]
  · rw [if_neg (fun z => e z.1)]
    have : (k ∈ H ++ [n]) ↔ k ∈ H := by simp [e]
    simp only [this]
theorem glO_same (G : Nat → List Pt) (n : Nat) : glO G (dnA n n) = glO G (upA n) := by
  funext k
  unfold glO
  have : (k ∈ dnA n n) ↔ k ∈ upA n := by rw [mem_dn, mem_up]; omega
  simp only [this]
theorem glO_len {G : Nat → List Pt} {i : Nat} (h : StG G i) (H : List Int) (k : Int) : (glO G H k).length ≤ 10 := by
  unfold glO
  split
  · exact Nat.le_trans (sortP_len _) (h.len _)
  · exact Nat.zero_le _
theorem flat_len10 {gl : Int → List Pt} (h : ∀ k, (gl k).length ≤ 10) : ∀ N : List Int, ((N.map gl).flatten).length ≤ 10 * N.length
  | [] => Nat.le_refl _
  | x :: r => by
    have ih := flat_len10 h r
    have := h x
    rw [List.map_cons, List.flatten_cons, List.length_append, List.length_cons]
    omega
/-- A node's list with its repair is the whole. -/
theorem order_whole {G : Nat → List Pt} {n : Nat} (hs : StG G n) (hn : n ≤ 8) {i : Nat} (hi : i < n) :
    sortP (G i ++ repL N8 (glO G (upA n)) i) = sortP ((N8.map (glO G (upA n))).flatten) := by
  have e1 : (N8.map fun k => if k ∈ upA n then G k.toNat else []).map sortP = N8.map (glO G (upA n)) := by
    rw [List.map_map]
    refine List.map_congr_left fun k _ => ?_
    unfold glO
    simp only [Function.comp]
    split <;> rfl
  have hmem : ∀ x ∈ (N8.map fun k => if k ∈ upA n then G k.toNat else []).flatten, ∃ a, x ∈ G a := fun x hx => by
    obtain ⟨l, hl, hx⟩ := List.mem_flatten.1 hx
    obtain ⟨k, _, rfl⟩ := List.mem_map.1 hl
    split at hx
    · exact ⟨_, hx⟩
    · cases hx
  have hi8 : (i : Int) ∈ N8 := mem8.2 (by omega)
  have hiu : (i : Int) ∈ upA n := mem_up.2 (by omega)
  have h := whole_law (N8.map fun k => if k ∈ upA n then G k.toNat else []) (fun x hx y hy e => by
    obtain ⟨a, ha⟩ := hmem x hx
    obtain ⟨b, hb⟩ := hmem y hy
    exact hs.alike ha hb e) (G i) (List.mem_map.2 ⟨(i : Int), hi8, by rw [if_pos hiu]; rfl⟩)
  rw [e1] at h
  have e2 : repL N8 (glO G (upA n)) i = (sortP ((N8.map (glO G (upA n))).flatten)).filter fun x => decide (x ∉ sortP (G i)) := by
    unfold repL
    rw [if_pos hi8]
    have : glO G (upA n) (i : Int) = sortP (G i) := if_pos hiu
    rw [this]
  rw [e2]
  exact h
/-- Two reads beside each other. -/
structure TwoR (w0 w : World) (p b g p2 b2 g2 : Nat) (Ha Hb : List Int) (la lb : Int → List Pt) : Prop where
  ra : OneR w0 w p b g 1 N8 Ha la
  rb : OneR w0 w p2 b2 g2 1 N8 Hb lb
  n1 : b ≠ b2
  n2 : b ≠ g2
  n3 : g ≠ b2
  n4 : g ≠ g2
section
variable {w0 w w' : World} {p b g p2 b2 g2 i n : Nat} {Ha Hb : List Int} {la lb : Int → List Pt} {f : Nat → Value} {G : Nat → List Pt} {A : Nat}
theorem TwoR.grow (h : TwoR w0 w p b g p2 b2 g2 Ha Hb la lb) (hg : Gr w w') : TwoR w0 w' p b g p2 b2 g2 Ha Hb la lb := ⟨h.ra.gr hg, h.rb.gr hg, h.n1, h.n2, h.n3, h.n4⟩
theorem OneR.lows (h : OneR w0 w p b g 1 N8 Ha la) : w0.heap.size ≤ b ∧ w0.heap.size ≤ g := by
  obtain ⟨_, _, _, _, h3, h4⟩ := h
  exact ⟨h3, h4⟩
theorem OneR.grw (h : OneR w0 w p b g 1 N8 Ha la) : Gr w0 w := by
  obtain ⟨_, _, _, hg, _⟩ := h
  exact hg
theorem TwoR.ansA (h : TwoR w0 w p b g p2 b2 g2 Ha Hb la lb) (hG : GotAt w A f G) (hH : Ha.length ≤ 1000) {n : Int} (hn : I64 n) {m : Nat} (hm : m < 8) (hl : (G m).length ≤ 100000) :
    Calls Try.prog 17 #[.pointer (some ⟨p, 0, none⟩), .int .i64 n, f m] w fun e w' => e = .returned (.bool (decide (ackB N8 Ha n))) ∧ TwoR w0 w' p b g p2 b2 g2 (ackH N8 Ha n) Hb (fun k => if k = n ∧ ackB N8 Ha n then sortP (G m) else la k) lb ∧ GotAt w' A f G := by
  refine (h.ra.answer (by decide) hH n hn (f m) (G m) (hG.row m hm).1 hl).mono ?_
  rintro e w' ⟨rfl, h1, h2, h3, h4⟩
  have hX : ∀ k, (b = k ∨ g = k) → ∃ es c, w.heap[k]? = some (.map es c) := fun k e => by rcases e with e | e <;> rw [← e] <;> assumption
  obtain ⟨l1, l2⟩ := h.ra.lows
  exact ⟨rfl, ⟨h1, h.rb.bt h2 hX (fun e => e.elim h.n1 h.n3) (fun e => e.elim h.n2 h.n4) (fun k e => by rcases e with e | e <;> rw [← e] <;> assumption), h.n1, h.n2, h.n3, h.n4⟩, hG.btm h2 hX⟩
theorem TwoR.ansB (h : TwoR w0 w p b g p2 b2 g2 Ha Hb la lb) (hG : GotAt w A f G) (hH : Hb.length ≤ 1000) {n : Int} (hn : I64 n) {m : Nat} (hm : m < 8) (hl : (G m).length ≤ 100000) :
    Calls Try.prog 17 #[.pointer (some ⟨p2, 0, none⟩), .int .i64 n, f m] w fun e w' => e = .returned (.bool (decide (ackB N8 Hb n))) ∧ TwoR w0 w' p b g p2 b2 g2 Ha (ackH N8 Hb n) la (fun k => if k = n ∧ ackB N8 Hb n then sortP (G m) else lb k) ∧ GotAt w' A f G := by
  refine (h.rb.answer (by decide) hH n hn (f m) (G m) (hG.row m hm).1 hl).mono ?_
  rintro e w' ⟨rfl, h1, h2, h3, h4⟩
  have hX : ∀ k, (b2 = k ∨ g2 = k) → ∃ es c, w.heap[k]? = some (.map es c) := fun k e => by rcases e with e | e <;> rw [← e] <;> assumption
  obtain ⟨l1, l2⟩ := h.rb.lows
  exact ⟨rfl, ⟨h.ra.bt h2 hX (fun e => e.elim (fun e => h.n1 e.symm) (fun e => h.n2 e.symm)) (fun e => e.elim (fun e => h.n3 e.symm) (fun e => h.n4 e.symm)) (fun k e => by rcases e with e | e <;> rw [← e] <;> assumption), h1, h.n1, h.n2, h.n3, h.n4⟩, hG.btm h2 hX⟩
theorem TwoR.up (h : TwoR w0 w p b g p2 b2 g2 (upA i) Hb (glO G (upA i)) lb) (hG : GotAt w A f G) (hi : i < 8) (hl : (G i).length ≤ 10) :
    Calls Try.prog 17 #[.pointer (some ⟨p, 0, none⟩), .int .i64 (i : Int), f i] w fun e w' => e = .returned (.bool true) ∧ TwoR w0 w' p b g p2 b2 g2 (upA (i + 1)) Hb (glO G (upA (i + 1))) lb ∧ GotAt w' A f G := by
  have ha := ack_up hi
  refine (h.ansA hG (by rw [up_len]; omega) (n := (i : Int)) (by unfold I64; omega) (m := i) hi (by omega)).mono ?_
  rintro e w' ⟨rfl, h1, h2⟩
  rw [glO_snoc (by omega) ha, up_succ] at h1
  unfold ackH at h1
  rw [if_pos ha, up_succ] at h1
  exact ⟨by rw [decide_eq_true ha], h1, h2⟩
theorem TwoR.dn (h : TwoR w0 w p b g p2 b2 g2 Ha (dnA n i) la (glO G (dnA n i))) (hG : GotAt w A f G) (hn : n ≤ 8) (hi : i < n) {m : Nat} (em : m = n - 1 - i) (hl : (G m).length ≤ 10) :
    Calls Try.prog 17 #[.pointer (some ⟨p2, 0, none⟩), .int .i64 ((n : Int) - 1 - i), f m] w fun e w' => e = .returned (.bool true) ∧ TwoR w0 w' p b g p2 b2 g2 Ha (dnA n (i + 1)) la (glO G (dnA n (i + 1))) ∧ GotAt w' A f G := by
  have ha := ack_dn hn hi
  refine (h.ansB hG (by rw [dn_len]; omega) (n := (n : Int) - 1 - i) (by unfold I64; omega) (m := m) (by omega) (by omega)).mono ?_
  rintro e w' ⟨rfl, h1, h2⟩
  rw [glO_snoc (by omega) ha, dn_succ] at h1
  unfold ackH at h1
  rw [if_pos ha, dn_succ] at h1
  exact ⟨by rw [decide_eq_true ha], h1, h2⟩
theorem OneR.merged (h : OneR w0 w p b g 1 N8 Ha la) (hl : ∀ k, (la k).length ≤ 10) :
    Calls Try.prog 18 #[.pointer (some ⟨p, 0, none⟩)] w fun e w' => ∃ v', e = .returned v' ∧ w'.ownsRow w.heap.size 26 6 v' (sortP ((N8.map la).flatten)).length (encP (sortP ((N8.map la).flatten))) ∧ Gr w w' := by
  obtain ⟨nv, gv, h1, _⟩ := h
  exact merged_calls w p 1 nv N8 _ _ Ha gv la h1 (by decide) (Nat.le_trans (flat_len10 hl N8) (by decide))
theorem OneR.repair (h : OneR w0 w p b g 1 N8 Ha la) (hl : ∀ k, (la k).length ≤ 10) (x : Int) (hn : I64 x) :
    Calls Try.prog 20 #[.pointer (some ⟨p, 0, none⟩), .int .i64 x] w fun e w' => ∃ v', e = .returned v' ∧ w'.ownsRow w.heap.size 26 6 v' (repL N8 la x).length (encP (repL N8 la x)) ∧ Gr w w' := by
  obtain ⟨nv, gv, h1, _⟩ := h
  exact repair_calls w p 1 nv N8 _ _ Ha gv la h1 (by decide) (Nat.le_trans (flat_len10 hl N8) (by decide)) (fun k => Nat.le_trans (hl k) (by decide)) x hn
theorem OneR.done (h : OneR w0 w p b g 1 N8 Ha la) :
    Calls Try.prog 16 #[.pointer (some ⟨p, 0, none⟩)] w fun e w' => e = .returned (.bool (decide (0 < Ha.length))) ∧ Gr w w' := by
  obtain ⟨nv, gv, h1, _⟩ := h
  refine (rdone_calls w p 1 nv N8 _ Ha h1.wr).mono ?_
  rintro e w' ⟨rfl, hg⟩
  refine ⟨?_, hg⟩
  have : ((0 : Int) < 1 ∧ (1 : Int) ≤ (Ha.length : Int)) ↔ 0 < Ha.length := by omega
  rw [decide_eq_decide.2 this]
theorem rep_len10 {gl : Int → List Pt} (hl : ∀ k, (gl k).length ≤ 10) (n : Int) : (repL N8 gl n).length ≤ 80 := by
  unfold repL
  split
  · exact Nat.le_trans (List.length_filter_le _ _) (Nat.le_trans (sortP_len _) (flat_len10 hl N8))
  · exact Nat.zero_le _
end
end Go.Proofs.Ytpnpnjfflblkpaa
