/- From a law's contract to its row: the arguments read as before, nothing of old memory has turned. -/
import Derived.Test.YtpnpnjfflblkpaaRows
import Derived.Test.YtpnpnjfflblkpaaUt
import Derived.ProofKit
import Derived.OpenShut
import Derived.Deep.Slices
namespace Go.Proofs.Ytpnpnjfflblkpaa
open Go.ChangeShapes Go.WideShapes Go.ChangeAt Go.RowKit

theorem own' : ownKnob Try.prog.godebug = none := by kernel_rfl
theorem laidOut' : laidOutB Try.prog = true := by kernel_rfl

theorem trodAll_stays {H : Type} {enc : TypeId × Value → H} {P : Program} (hl : laidOutB P = true) {W W' : World} (hb : Gr W W') :
    ∀ (ts : List TypeId) (vs : List Value) (ds : List (DataW H)) (ps : List MemPlace), (∀ t ∈ ts, P.readableRec t = true ∧ t < P.types.size) →
      DataW.TrodAll enc P W 0 (fun _ => true) true ts vs ds ps → (∀ x ∈ ps, x.block < W.heap.size) → DataW.TrodAll enc P W' 0 (fun b => decide (b < W.heap.size)) true ts vs ds ps := by
  intro ts
  induction ts with
  | nil =>
    intro vs ds ps _ h _
    obtain ⟨rfl, rfl, rfl⟩ := trodAll_nil h
    exact trodAll_mk0
  | cons t r ih =>
    intro vs ds ps ht h hlt
    obtain ⟨v0, vs0, d0, ds0, p0, q0, rfl, rfl, rfl, h0, r0⟩ := trodAll_cons h
    have h1 := ht t (by simp)
    exact trodAll_cons_mk (Below.trod hl h1.1 h1.2 h0 hb (fun x hx => hlt x (by simp [hx]))) (ih _ _ _ (fun z hz => ht z (by simp [hz])) r0 (fun x hx => hlt x (by simp [hx])))

theorem law_post {H : Type} {enc : TypeId × Value → H} {f : Func} {s : ChangeSpec} {W W' : World} {args : Array Value} {ds : List (DataW H)} {before : List MemPlace}
    (hW : DataW.Whole enc Try.prog f.params.toList s.vars false W args.toList ds [] before) (hV : s.vars = [])
    (hts : f.params.toList.all (fun t => Try.prog.readableRec t && decide (t < Try.prog.types.size)) = true) (hrt : f.resultTypes = #[4])
    (hres : (s.fn H (ds ++ [])).results = [.lit (.bool true)]) (hargs : (s.fn H (ds ++ [])).args = ds) (hvars : (s.fn H (ds ++ [])).vars = []) (hg : Gr W W') :
    s.post enc Try.prog f false true false false W args (.bool true) W' := by
  have hW' := hW
  obtain ⟨p, q, hA, hV2, hpq, _, _⟩ := hW
  rw [hV] at hV2
  obtain ⟨_, hq⟩ := trodVars_none hV2
  subst hq
  have hpq' : before = p := by rw [hpq]; simp
  subst hpq'
  have hlt : ∀ x ∈ before, x.block < W.heap.size := fun x hx => hW'.lt x hx
  refine ⟨ds, [], before, [], before, [], hW', ?_, ?_, ?_, hg.frame _, fun h => by cases h⟩
  · rw [hres, hrt]
    exact trodAll_cons_mk (shut_bool Try.underlying4 _) trodAll_mk0
  · rw [hargs]
    refine trodAll_stays laidOut' hg _ _ _ _ (fun t ht => ?_) hA hlt
    have := List.all_eq_true.1 hts t ht
    simpa using this
  · rw [hvars, hV]; rfl

theorem mapM_get {α β : Type} {f : α → Option β} : ∀ (l : List α) (r : List β), l.mapM f = some r → ∀ j (h : j < l.length), f l[j] = r[j]? := by
  intro l
  induction l with
  | nil => intro r _ j h; simp at h
  | cons x t ih =>
    intro r hr j h
    rw [List.mapM_cons] at hr
    simp only [Option.bind_eq_bind, Option.bind_eq_some_iff, Option.pure_def, Option.some.injEq] at hr
    obtain ⟨y, hy, r', hr', rfl⟩ := hr
    cases j with
    | zero => simpa using hy
    | succ j => simpa using ih r' hr' j (by simpa using h)
theorem mapM_len {α β : Type} {f : α → Option β} : ∀ (l : List α) (r : List β), l.mapM f = some r → r.length = l.length := by
  intro l
  induction l with
  | nil => intro r h; simp at h; subst h; rfl
  | cons x t ih =>
    intro r hr
    rw [List.mapM_cons] at hr
    simp only [Option.bind_eq_bind, Option.bind_eq_some_iff, Option.pure_def, Option.some.injEq] at hr
    obtain ⟨y, hy, r', hr', rfl⟩ := hr
    simp [ih r' hr']
theorem cells?_get {w : World} {base : Nat} {a : Addr} {n : Nat} {cs : List Value} (h : w.cells? base a n = some cs) : ∀ j, j < n → w.cell? (a.add j) = cs[j]? := by
  intro j hj
  unfold World.cells? at h
  split at h
  · have := mapM_get _ _ h j (by simpa using hj)
    simpa using this
  · cases h
theorem rd_of_each {α : Type} (e : α → List Value) (k : Nat) (hk : ∀ x, (e x).length = k) {w : World} {b : Nat} : ∀ (l : List α) (o : Nat),
    (∀ i (hi : i < l.length) j u, (e l[i])[j]? = some u → w.cell? ⟨b, o + (i * k + j), none⟩ = some u) → ∀ t u, (l.flatMap e)[t]? = some u → w.cell? ⟨b, o + t, none⟩ = some u := by
  intro l
  induction l with
  | nil => intro o _ t u h; simp at h
  | cons x r ih =>
    intro o h t u hu
    rw [List.flatMap_cons] at hu
    by_cases ht : t < k
    · rw [List.getElem?_append_left (by rw [hk]; exact ht)] at hu
      have := h 0 (by simp) t u hu
      simpa using this
    · rw [List.getElem?_append_right (by rw [hk]; omega), hk] at hu
      have := ih (o + k) (fun i hi j u hu => by
        have := h (i + 1) (by simpa using hi) j u hu
        rwa [show o + ((i + 1) * k + j) = o + k + (i * k + j) by rw [Nat.add_mul]; omega] at this) (t - k) u hu
      rwa [show o + k + (t - k) = o + t by omega] at this
/-- A slice whose elements can be read: as a list. -/
theorem open_rows {H : Type} {enc : TypeId × Value → H} {P : Program} {W : World} {base b0 : Nat} {spare : Nat → Bool} {held : Bool} {r : Reach} {α : Type} [Inhabited α] (ea : α → List Value) (k : Nat) (hk : ∀ x, (ea x).length = k) (hk0 : 0 < k) (Q : α → Prop) {t e : TypeId}
    (ht : P.underlying t = some (.slice e)) (hce : P.cellsOf e = k) (dec : ∀ n cs x, DataW.trod enc P W base spare held n e cs = some x → cs.length = k → ∃ y : α, cs = ea y ∧ Q y)
    {v : Value} {d : DataW H} {p : List MemPlace} (hv : Value.okWide P W r b0 t v) (h : DataW.Trod enc P W base spare held t v d p) :
    ∃ l : List α, rdRow W k v l.length (l.flatMap ea) ∧ l.length ≤ maxLen ∧ ∀ y ∈ l, Q y := by
  obtain ⟨a0, len, cap, rfl⟩ := okWide_slice ht hv
  obtain ⟨fuel, hf⟩ := h
  rcases Deep.open_slice ht hf with ⟨hcs, _⟩ | ⟨a, len', cap', m, n, D, Pl, hcs, _, hl, hm, hmm, _, hel⟩
  · simp [Value.cells] at hcs
    obtain ⟨rfl, rfl, rfl⟩ := hcs
    exact ⟨[], ⟨by simp, none, 0, rfl, Nat.le_refl _, fun h => absurd h (by simp)⟩, Nat.zero_le _, by simp⟩
  · simp [Value.cells] at hcs
    obtain ⟨rfl, rfl, rfl⟩ := hcs
    have hlm : len ≤ m := by rw [hmm]; split <;> omega
    have key : ∀ i, i < len → ∃ y : α, Q y ∧ ∀ j u, (ea y)[j]? = some u → W.cell? ((a.add (i * k)).add j) = some u := by
      intro i hi
      obtain ⟨cs, hc, htr⟩ := hel i (by omega)
      rw [hce] at hc
      have hcl : cs.length = k := by
        have h1 := cells?_get hc
        unfold World.cells? at hc
        split at hc
        · have := mapM_len _ _ hc
          simpa using this
        · cases hc
      obtain ⟨y, rfl, hq⟩ := dec _ _ _ htr hcl
      refine ⟨y, hq, fun j u hu => ?_⟩
      have hj : j < k := by rw [← hcl]; exact (List.getElem?_eq_some_iff.1 hu).1
      rw [cells?_get hc j hj, hu]
    obtain ⟨X, hX⟩ := Deep.choose_lt key
    have hlen : ((List.range len).map X).length = len := by simp
    refine ⟨(List.range len).map X, ⟨?_, some a, cap, by rw [hlen], by rw [hlen]; exact hl, fun hpos => ?_⟩, by rw [hlen]; omega, ?_⟩
    · have : ∀ l : List α, (l.flatMap ea).length = l.length * k := by
        intro l; induction l with
        | nil => simp
        | cons x r ih => rw [List.flatMap_cons, List.length_append, ih, hk, List.length_cons, Nat.add_mul]; omega
      exact this _
    · rw [hlen] at hpos
      have h00 : a.spot = none := by
        obtain ⟨u, hu⟩ : ∃ u, (ea (X 0))[0]? = some u := ⟨(ea (X 0))[0]'(by rw [hk]; exact hk0), by rw [List.getElem?_eq_getElem]⟩
        have := (hX 0 hpos).2 0 u hu
        simp [Addr.add] at this
        cases hs : a.spot with
        | none => rfl
        | some s => simp [World.cell?, hs] at this; split at this <;> simp at this
      obtain ⟨b, o, sp⟩ := a
      simp only at h00
      subst h00
      refine ⟨b, o, rfl, rd_of_each ea k hk _ o (fun i hi j u hu => ?_)⟩
      rw [hlen] at hi
      have hu' : (ea (X i))[j]? = some u := by simpa using hu
      have := (hX i hi).2 j u hu'
      rwa [Deep.add_add, Addr.add_mid] at this
    · intro y hy
      obtain ⟨i, hi, rfl⟩ := List.mem_map.1 hy
      exact (hX i (List.mem_range.1 hi)).1
end Go.Proofs.Ytpnpnjfflblkpaa
