/- HintDrops: the plain law, and an array of sixteen lists. -/
import Derived.Test.YtijgbfhjimlklaaHnP
import Derived.Maps.AppendAt
import Derived.Great.BuildSlice
namespace Go.Proofs.Ytijgbfhjimlklaa
open Go.RowKit Go.Maps

def lowB (t : Int) (p : Pt) : Bool := decide (p.t < t)
def cutK (K : List Pt) (t : Int) : List Pt := K.filter fun p => !lowB t p
theorem KL_cons (ns : List Int) (p : Pt) (r : List Pt) : KL ns (p :: r) = ((nodesOf ns).map fun n => (p, n)) ++ KL ns r := by unfold KL; rw [List.flatMap_cons]
theorem KL_drop (ns : List Int) (t : Int) : ∀ K : List Pt, dropL (KL ns K) t = KL ns (cutK K t)
  | [] => rfl
  | p :: r => by
    have ih := KL_drop ns t r
    unfold dropL at ih ⊢
    rw [KL_cons, List.filter_append, ih]
    by_cases h : p.t < t
    · have e1 : cutK (p :: r) t = cutK r t := by unfold cutK lowB; rw [List.filter_cons_of_neg (by simp [h])]
      rw [e1, List.filter_eq_nil_iff.2, List.nil_append]
      intro x hx
      obtain ⟨n, _, rfl⟩ := List.mem_map.1 hx
      simp [h]
    · have e1 : cutK (p :: r) t = p :: cutK r t := by unfold cutK lowB; rw [List.filter_cons_of_pos (by simp [h])]
      rw [e1, KL_cons, List.filter_eq_self.2]
      intro x hx
      obtain ⟨n, _, rfl⟩ := List.mem_map.1 hx
      simp [h]
theorem Kept.cut {K : List Pt} (h : Kept K) (t : Int) : Kept (cutK K t) := ⟨List.Pairwise.filter _ h.nd, fun p hp => h.ok p (List.mem_filter.1 hp).1⟩
theorem KL_points {ns : List Int} {K : List Pt} (h : Kept K) {n : Int} (hn : n ∈ nodesOf ns) : (pointsOf (KL ns K) n).Perm K := by
  have hnd : (pointsOf (KL ns K) n).Nodup := by
    unfold pointsOf
    show List.Pairwise _ _
    rw [List.pairwise_map, List.pairwise_filter]
    refine (KL_nodup h).imp fun {a c} hac h1 h2 e => hac ?_
    simp only [decide_eq_true_eq] at h1 h2
    exact Prod.ext e (h1.trans h2.symm)
  refine (List.perm_ext_iff_of_nodup hnd h.nd).2 fun p => ?_
  unfold pointsOf
  rw [List.mem_map]
  constructor
  · rintro ⟨x, hx, rfl⟩
    exact (KL_mem.1 (List.mem_filter.1 hx).1).1
  · intro hp
    exact ⟨(p, n), List.mem_filter.2 ⟨KL_mem.2 ⟨hp, hn⟩, by simp⟩, rfl⟩
theorem KL_for {ns : List Int} {K : List Pt} (h : Kept K) (hl : K.length ≤ 600) {n : Int} (hn : n ∈ nodesOf ns) : forL (KL ns K) n 600 = srtH K := by
  unfold forL
  rw [srtH_congr (KL_points h hn), List.take_of_length_le (by rw [srtH_len]; exact hl)]
theorem srtH_cut (K : List Pt) (t : Int) : srtH (cutK K t) = cutK (srtH K) t := srtH_eq ((srtH_perm K).filter _) (List.Pairwise.filter _ (srtH_le K))
/-- How many are below the time. -/
def lowN (S : List Pt) (t : Int) : Nat := (S.filter (lowB t)).length
theorem low_cut (S : List Pt) (t : Int) : S.length = lowN S t + (cutK S t).length := by
  unfold lowN cutK
  induction S with
  | nil => rfl
  | cons p r ih => rw [List.filter_cons, List.filter_cons, List.length_cons]; cases lowB t p <;> simp <;> omega
theorem cut_cut (S : List Pt) (t : Int) : cutK (cutK S t) t = cutK S t := by unfold cutK; rw [List.filter_filter]; simp
theorem drop_gone (ns : List Int) (K : List Pt) (t : Int) : ((KL ns K).length : Int) - (dropL (KL ns K) t).length = ((nodesOf ns).length * lowN (srtH K) t : Nat) := by
  rw [KL_drop, KL_len, KL_len]
  have h1 := low_cut (srtH K) t
  rw [srtH_len, ← srtH_cut, srtH_len] at h1
  rw [h1, Nat.add_mul, Nat.mul_comm (lowN _ _)]
  push_cast
  omega
theorem drop_again (ns : List Int) (K : List Pt) (t : Int) : ((KL ns (cutK K t)).length : Int) - (dropL (KL ns (cutK K t)) t).length = 0 := by rw [KL_drop, cut_cut]; omega
theorem low_succ {S : List Pt} {k : Nat} (h : k < S.length) (t : Int) : (S[k].t < t → lowN (S.take (k + 1)) t = lowN (S.take k) t + 1 ∧ cutK (S.take (k + 1)) t = cutK (S.take k) t) ∧
    (¬ S[k].t < t → lowN (S.take (k + 1)) t = lowN (S.take k) t ∧ cutK (S.take (k + 1)) t = cutK (S.take k) t ++ [S[k]]) := by
  have e := List.take_succ_eq_append_getElem h
  unfold lowN cutK lowB
  rw [e]
  constructor <;> intro hl <;> simp [-List.take_append_getElem, List.filter_append, hl]
theorem nodesOf_nat {ns : List Int} {i : Nat} (h : i < (nodesOf ns).length) : ∃ n : Nat, (nodesOf ns)[i] = (n : Int) ∧ n < 16 := by
  have := nodesOf_mem.1 (List.getElem_mem h)
  exact ⟨(nodesOf ns)[i].toNat, by omega, by omega⟩
/-- Lists in an array: of each place its list, on a row of its own. -/
structure Had (w : World) (A N : Nat) (g : Nat → List Pt) (f : Nat → Value) : Prop where
  arr : ∀ m, m < 16 → w.cell? ⟨A, m, none⟩ = some (f m) ∧ w.frozen? ⟨A, m, none⟩ = false
  row : ∀ m, m < 16 → w.ownsRow N 31 6 (f m) (g m).length (encP (g m))
  sep : ∀ m n k, m < 16 → n < 16 → m ≠ n → (f m).ownBlock = some k → (f n).ownBlock ≠ some k
  ab : A < N
  nw : N ≤ w.heap.size
section
variable {w w' : World} {A N : Nat} {g : Nat → List Pt} {f : Nat → Value}
theorem Had.gr (h : Had w A N g f) (hg : Gr w w') : Had w' A N g f :=
  ⟨fun m hm => ⟨keepc hg (h.arr m hm).1, keepf hg (h.arr m hm).1 (h.arr m hm).2⟩, fun m hm => own_gr (h.row m hm) hg, h.sep, h.ab, Nat.le_trans h.nw hg.size⟩
theorem frozen_bt {X : Nat → Prop} {w w' : World} (hb : Bt X w w') {p : Addr} {v : Value} (hx : ¬ X p.block) (hc : w.cell? p = some v) (hf : w.frozen? p = false) : w'.frozen? p = false := by
  have e := hb.block p.block (World.block_lt_of_cell? w _ hc) hx
  unfold World.frozen? at hf ⊢
  rw [e]
  exact hf
theorem Had.bt {X : Nat → Prop} (h : Had w A N g f) (hb : Bt X w w') (hx : ∀ k, X k → k < N ∧ k ≠ A) : Had w' A N g f :=
  ⟨fun m hm => ⟨hb.cell (fun z => (hx _ z).2 rfl) (h.arr m hm).1, frozen_bt hb (fun z => (hx _ z).2 rfl) (h.arr m hm).1 (h.arr m hm).2⟩, fun m hm => own_bt (h.row m hm) hb (fun k hk z => by have := ((h.row m hm).lt k hk).1; have := (hx k z).1; omega), h.sep, h.ab, Nat.le_trans h.nw hb.size⟩
theorem Had.congr {g' : Nat → List Pt} (h : Had w A N g f) (hg : ∀ m, m < 16 → g' m = g m) : Had w A N g' f :=
  ⟨h.arr, fun m hm => by rw [hg m hm]; exact h.row m hm, h.sep, h.ab, h.nw⟩
theorem had_new {cs : Array Value} {T : TypeId} (hb : w.heap[A]? = some (.cells cs T (0, 0))) (hc : ∀ m, m < 16 → cs[m]? = some (.slice none 0 0)) (hN : A < N) (hw : N ≤ w.heap.size) : Had w A N (fun _ => []) (fun _ => .slice none 0 0) :=
  ⟨fun m hm => ⟨(cell_of_row w A m _ _ _ hb).trans (hc m hm), frozen_of_row w A m _ _ hb⟩, fun _ _ => World.ownsRow_nil _ _ _ _, fun _ _ _ _ _ _ h => (by cases h), hN, hw⟩
theorem Had.snoc (h : Had w A N g f) {w6 w7 : World} (hg : Gr w w6) {m : Nat} (hm : m < 16) {y : Pt} {v' : Value} (hgr : w6.grownBy w7 (f m).ownBlock)
    (hown : w7.ownsRow N 31 6 v' (g m ++ [y]).length (encP (g m ++ [y]))) (hat : v'.ownBlock = (f m).ownBlock ∨ v'.ownBlock = some w6.heap.size) :
    Had (w7.setCell ⟨A, m, none⟩ v') A N (fun j => if j = m then g m ++ [y] else g j) (fun j => if j = m then v' else f j) := by
  have hb7 : Bt (fun k => (f m).ownBlock = some k) w6 w7 := ⟨hgr.os, hgr.tape, hgr.output, hgr.size, fun k hk hne => hgr.block k hk (fun e => hne e.symm)⟩
  have hA : ¬ (f m).ownBlock = some A := fun z => by have := ((h.row m hm).lt A z).1; have := h.ab; omega
  have hc7 : ∀ k, k < 16 → w7.cell? ⟨A, k, none⟩ = some (f k) ∧ w7.frozen? ⟨A, k, none⟩ = false := fun k hk => by
    have hc := keepc hg (h.arr k hk).1
    refine ⟨hb7.cell hA hc, ?_⟩
    have hf := keepf hg (h.arr k hk).1 (h.arr k hk).2
    have hl := World.block_lt_of_cell? w6 _ hc
    have e := hb7.block A hl hA
    unfold World.frozen? at hf ⊢
    rw [show w7.heap[(⟨A, k, none⟩ : Addr).block]? = w6.heap[(⟨A, k, none⟩ : Addr).block]? from e]
    exact hf
  have hs : Bt (fun k => k = A) w7 (w7.setCell ⟨A, m, none⟩ v') := Bt.row (grown_set w7 A m _) rfl
  refine ⟨fun k hk => ?_, fun k hk => ?_, fun a c k ha hc hne hka => ?_, h.ab, Nat.le_trans (Nat.le_trans h.nw hg.size) (Nat.le_trans hb7.size hs.size)⟩
  · rw [World.frozen?_setCell]
    refine ⟨?_, (hc7 k hk).2⟩
    by_cases e : k = m
    · subst e; rw [World.cell?_setCell_same _ _ _ (hc7 k hk).1]; simp
    · rw [World.cell?_setCell_other _ ⟨A, m, none⟩ ⟨A, k, none⟩ _ (by intro q; injection q with _ q2; omega), (hc7 k hk).1]; simp [e]
  · by_cases e : k = m
    · subst e
      simp only [if_true]
      exact own_bt hown hs (fun j hj z => by have := (hown.lt j hj).1; have := h.ab; omega)
    · simp only [if_neg e]
      refine own_bt (own_bt (own_gr (h.row k hk) hg) hb7 (fun j hj z => h.sep k m j hk hm e hj z)) hs (fun j hj z => ?_)
      have := ((h.row k hk).lt j hj).1
      have := h.ab
      omega
  · have old : ∀ d j, d < 16 → (f d).ownBlock = some j → j < w6.heap.size := fun d j hd hj => Nat.lt_of_lt_of_le ((h.row d hd).lt j hj).2 hg.size
    by_cases e1 : a = m
    · have e2 : c ≠ m := fun z => hne (e1.trans z.symm)
      simp only [if_pos e1, if_neg e2] at hka ⊢
      intro z
      rcases hat with h1 | h1
      · rw [h1] at hka; exact h.sep m c k hm hc (Ne.symm e2) hka z
      · rw [h1] at hka; injection hka with hka; have := old c k hc z; omega
    · simp only [if_neg e1] at hka
      by_cases e2 : c = m
      · simp only [if_pos e2]
        intro z
        rcases hat with h1 | h1
        · rw [h1] at z; exact h.sep m a k hm ha (Ne.symm e1) z hka
        · rw [h1] at z; injection z with z; have := old a k ha hka; omega
      · simp only [if_neg e2]
        exact h.sep a c k ha hc hne hka
end
theorem wp_append_pt {o : Oper} {a : Act} {w : World} {K : Act → World → Prop} {Q : Exit → Act → World → Prop} (s x : Operand)
    (ho : o.op = .call { callee := .builtin .append, args := #[s, x], argTypes := #[22, 22] }) (base : Nat) (v : Value) (L : List Pt) (hs : a.eval s = v) (hown : w.ownsRow base 31 6 v L.length (encP L))
    (y : Pt) (A : Nat) (hx : a.eval x = .slice (some ⟨A, 0, none⟩) 1 1) (hA : w.heap[A]? = some (.cells (ptC y).toArray 31 (0, 0))) (hn : L.length ≤ 1000) (hbase : base ≤ w.heap.size)
    (h : ∀ a' c' w', w'.ownsRow base 31 6 (.slice a' (L.length + 1) c') (L ++ [y]).length (encP (L ++ [y])) → w.grownBy w' v.ownBlock → ((Value.slice a' (L.length + 1) c').ownBlock = v.ownBlock ∨ (Value.slice a' (L.length + 1) c').ownBlock = some w.heap.size) → K (a.put o.dst (.slice a' (L.length + 1) c')) w') : o.wp Try.prog a w K Q := by
  obtain ⟨i0, hi, hz0, hz1, hz2⟩ := info_parts infoPt
  obtain ⟨v', w', hr, h2, h3, h4, h5⟩ := run_append_own_at (P := Try.prog) w base 22 o.type 31 i0 _ 6 56 Try.underlying22 hi hz0 hz1 hz2 rfl (by decide) v L.length (encP L) hown ⟨A, 0, none⟩ 1 1 (ptC y) rfl (fun j u hu => by rw [Addr.add_mid, Nat.zero_add, cell_of_row w A j _ _ _ hA]; simpa using hu) (ptC_one y) (by unfold maxLen; omega) (by omega) hbase
  obtain ⟨a', c', rfl⟩ : ∃ a' c', v' = .slice a' (L.length + 1) c' := by
    rcases h2.2 with ⟨rfl, h0⟩ | ⟨g, cap, cur, rfl, _⟩
    · omega
    · exact ⟨_, _, rfl⟩
  unfold Oper.wp execOp
  simp only [ho, resolve, invoke, builtin, Sem.run_bind, Sem.run_pure, Result.andThen_ok, List.map_toArray, List.map_cons, List.map_nil, hs, hx, hr]
  exact h a' c' w' (own_cast h2 (by simp) (by simp [encP])) h3 h5
/-- What the walk carries: the object, and the nodes. All that the array writes stands from A on. -/
structure Dp (w0 w : World) (p b : Nat) (ns : List Int) (L : List Hk) (v9 : Value) (A : Nat) : Prop where
  one : OneH w0 w p b 600 L
  all : rdRow w 1 v9 (nodesOf ns).length (encI (nodesOf ns))
  pa : p < A
  ba : b < A
  v9b : ∀ a n c, v9 = .slice (some a) n c → a.block < A ∧ ¬ a.block = b
  wa : w0.heap.size ≤ A
section
variable {w0 w w' : World} {p b A : Nat} {ns : List Int} {L L' : List Hk} {v9 : Value}
theorem Dp.grow (h : Dp w0 w p b ns L v9 A) (hg : Gr w w') : Dp w0 w' p b ns L v9 A := ⟨h.one.grow hg, h.all.gr hg, h.pa, h.ba, h.v9b, h.wa⟩
theorem Dp.far {X : Nat → Prop} (h : Dp w0 w p b ns L v9 A) (hb : Bt X w w') (hx : ∀ k, X k → A ≤ k) : Dp w0 w' p b ns L v9 A :=
  ⟨⟨h.one.at_.bt hb (fun z => by have := hx _ z; have := h.pa; omega) (fun k hk z => by injection hk with hk; have := hx _ z; have := h.ba; omega), hb.gr h.one.gr (fun k hk => Nat.le_trans h.wa (hx k hk)), h.one.np, h.one.nb⟩,
    h.all.bt hb (fun a n c e _ z => by have := hx _ z; have := (h.v9b a n c e).1; omega), h.pa, h.ba, h.v9b, h.wa⟩
theorem Dp.turn (h : Dp w0 w p b ns L v9 A) (ha : HAt w' p (some b) 600 L') (hb : Bt (fun k => k = b) w w') : Dp w0 w' p b ns L' v9 A :=
  ⟨h.one.turn ha (hb.mono fun k _ z => by rw [z]), h.all.bt hb (fun a n c e _ z => (h.v9b a n c e).2 z), h.pa, h.ba, h.v9b, h.wa⟩
theorem Dp.cell {b9 o9 c9 : Nat} (h : Dp w0 w p b ns L (.slice (some ⟨b9, o9, none⟩) (nodesOf ns).length c9) A) {i : Nat} (hi : i < (nodesOf ns).length) : w.cell? ⟨b9, o9 + i, none⟩ = some (.int .i64 (nodesOf ns)[i]) := by
  obtain ⟨_, a, c, e, _, h2⟩ := h.all
  obtain ⟨b', o', ea, h3⟩ := h2 (by omega)
  have e1 := (Value.slice.inj e).1
  rw [ea] at e1
  injection e1 with e1
  injection e1 with e2 e3
  subst e2 e3
  exact h3 i _ (encI_get hi)
end
/-- The lists behind i nodes. -/
def hadG (N : List Int) (S : List Pt) (i m : Nat) : List Pt := if (m : Int) ∈ N.take i then S else []
theorem hadG_at {N : List Int} (hN : N.Nodup) {S : List Pt} {i n : Nat} (hi : i < N.length) (hn : N[i] = (n : Int)) : hadG N S i n = [] ∧ hadG N S (i + 1) n = S ∧ ∀ m, m ≠ n → hadG N S (i + 1) m = hadG N S i m := by
  have e := List.take_succ_eq_append_getElem hi
  have h1 := hN
  rw [← List.take_append_drop i N, List.nodup_append] at h1
  refine ⟨if_neg fun z => h1.2.2 _ z _ (by rw [List.drop_eq_getElem_cons hi, ← hn]; exact List.mem_cons_self ..) rfl, if_pos (by rw [e, hn]; simp), fun m hm => ?_⟩
  unfold hadG
  have : (m : Int) ∈ N.take (i + 1) ↔ (m : Int) ∈ N.take i := by
    rw [e, List.mem_append, List.mem_singleton, hn]
    refine ⟨fun z => z.resolve_right (fun q => hm (by exact_mod_cast q)), .inl⟩
  simp only [this]
theorem hadG_all {N : List Int} {S : List Pt} {i n : Nat} (hi : i < N.length) (hn : N[i] = (n : Int)) : hadG N S N.length n = S := if_pos (by rw [List.take_length, ← hn]; exact List.getElem_mem hi)
theorem pt_fill (q : Pt) (cells : Array Value) (hc : cells.size = 6) : Instr.fill (fun i => some (i * 6, 6)) cells [(0, .agg (ptC q).toArray)] = some (ptC q).toArray := by
  have h := Great.fill_whole (s := 6) (by decide) [.agg (ptC q).toArray] cells (by intro v hv; rw [List.mem_singleton.1 hv]; rfl) (by simp [hc])
  simpa [Value.cells, List.zipIdx] using h
theorem wp_lit_pt {o : Oper} {a : Act} {w : World} {K : Act → World → Prop} {Q : Exit → Act → World → Prop} (x : Operand) (ho : o.op = .buildSlice 22 1 #[(0, x)])
    (q : Pt) (hx : a.eval x = .agg (ptC q).toArray)
    (h : ∀ w1, w.alloc (.cells (ptC q).toArray 31) = w1 → K (a.put o.dst (.slice (some ⟨w.heap.size, 0, none⟩) 1 1)) w1) : o.wp Try.prog a w K Q := by
  obtain ⟨i0, hi, hz0, hz1, hz2⟩ := info_parts infoPt
  refine wp_buildSlice 22 31 1 #[(0, x)] ho (ptC q).toArray i0 _ Try.underlying22 hi hz0 (by rw [hz1]; decide) (by rw [hz1]; decide) ?_ (h _ rfl)
  rw [hz1]
  have e : (Array.map (fun x : Nat × Operand => match x with | (i, x) => (i, a.eval x)) #[(0, x)]).toList = [(0, .agg (ptC q).toArray)] := by simp [hx]
  refine (congrArg _ e).trans (pt_fill q _ ?_)
  simp
theorem apart_snoc {f : Nat → Value} {A n B : Nat} {v' mv : Value} (h : ∀ a n c, mv = .slice (some a) n c → (∀ j, j < 16 → (f j).ownBlock ≠ some a.block) ∧ a.block ≠ A) (hn : n < 16) (hb : ∀ a n c, mv = .slice (some a) n c → a.block < B)
    (hat : v'.ownBlock = (f n).ownBlock ∨ v'.ownBlock = some B) : ∀ a n_1 c, mv = .slice (some a) n_1 c → (∀ j, j < 16 → (if j = n then v' else f j).ownBlock ≠ some a.block) ∧ a.block ≠ A := fun a n1 c e => by
  obtain ⟨h1, h2⟩ := h a n1 c e
  refine ⟨fun j hj => ?_, h2⟩
  by_cases ej : j = n
  · rw [if_pos ej]
    intro z
    rcases hat with h3 | h3
    · rw [h3] at z; exact h1 n hn z
    · rw [h3] at z; injection z with z
      have := hb a n1 c e
      omega
  · rw [if_neg ej]; exact h1 j hj
end Go.Proofs.Ytijgbfhjimlklaa
