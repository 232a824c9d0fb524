/- Hints: points that are kept, one after another, for the same nodes. -/
import Derived.Test.YtijgbfhjimlklaaHnK
namespace Go.Proofs.Ytijgbfhjimlklaa
open Go.RowKit Go.Maps

def smallP (p : Pt) : Pt := if 60 < p.s.size then { p with s := p.s.extract 0 60 } else p
theorem smallP_size (p : Pt) : (smallP p).s.size ≤ 60 := by
  unfold smallP
  split
  · simp [ByteArray.size_extract]; omega
  · omega
theorem smallP_w {p : Pt} (h : PtI p) : PtW (smallP p) := by
  refine ⟨by have := smallP_size p; unfold maxLen; omega, ?_⟩
  unfold smallP
  split
  · exact h
  · exact h
theorem small_calls (p : Pt) (w : World) : Calls Try.prog 11 #[ptV p] w fun e w' => e = .returned (ptV (smallP p)) ∧ Gr w w' := by
  by_cases h : 60 < p.s.size
  · have hs : smallP p = { p with s := p.s.extract 0 60 } := if_pos h
    have HS := Lib.hid hs
    have h1 : (60 : Int) < p.s.size := by omega
    clear hs
    go_enter Try.func11, Try.ntmps11
    go_wp2_with fail
    exact bodyPost_ret (v := ptV { p with s := p.s.extract 0 60 }) (by simp [results, Try.results11, go_sem]) rfl ⟨by rw [HS.out], by (repeat (first | exact Gr.rfl' | refine Gr.al ?_ _ | refine Gr.dr ?_ | refine Gr.drN ?_ | refine Gr.sc ?_ (by simp <;> omega) _ | refine Gr.tr ?_ (by assumption)))⟩
  · have hs : smallP p = p := if_neg h
    have HS := Lib.hid hs
    have h1 : ¬ (60 : Int) < p.s.size := by omega
    clear hs
    go_enter Try.func11, Try.ntmps11
    go_wp2_with fail
    exact bodyPost_ret (v := ptV p) (by simp [results, Try.results11, go_sem]) rfl ⟨by rw [HS.out], by (repeat (first | exact Gr.rfl' | refine Gr.al ?_ _ | refine Gr.dr ?_ | refine Gr.drN ?_ | refine Gr.sc ?_ (by simp <;> omega) _ | refine Gr.tr ?_ (by assumption)))⟩
theorem nodesTo_mem {l : List Int} {n : Nat} {x : Int} : x ∈ nodesTo l n ↔ x ∈ l ∧ 0 ≤ x ∧ x < n := by
  unfold nodesTo
  rw [List.mem_filter, List.mem_map]
  constructor
  · rintro ⟨⟨j, hj, rfl⟩, h⟩
    rw [List.mem_range] at hj
    exact ⟨by simpa using h, Int.natCast_nonneg _, by show (j : Int) < n; omega⟩
  · rintro ⟨h1, h2, h3⟩
    exact ⟨⟨x.toNat, List.mem_range.2 (by omega), by show ((x.toNat : Nat) : Int) = x; omega⟩, by simpa using h1⟩
theorem nodesOf_mem {l : List Int} {x : Int} : x ∈ nodesOf l ↔ x ∈ l ∧ 0 ≤ x ∧ x < 16 := nodesTo_mem
theorem nodesOf_nodup (l : List Int) : (nodesOf l).Nodup := by
  have h1 : ((List.range 16).map Int.ofNat).Nodup := by
    rw [List.nodup_iff_pairwise_ne, List.pairwise_map]
    exact List.nodup_range.imp (fun h e => h (Int.ofNat.inj e))
  exact List.Pairwise.filter _ h1
theorem nodesOf_len (l : List Int) : (nodesOf l).length ≤ 16 := nodesTo_len l 16
/-- The hints: each point for each node. -/
def KL (ns : List Int) (K : List Pt) : List Hk := K.flatMap fun p => (nodesOf ns).map fun n => (p, n)
theorem KL_mem {ns : List Int} {K : List Pt} {x : Hk} : x ∈ KL ns K ↔ x.1 ∈ K ∧ x.2 ∈ nodesOf ns := by
  unfold KL
  rw [List.mem_flatMap]
  constructor
  · rintro ⟨p, hp, h⟩
    obtain ⟨n, hn, rfl⟩ := List.mem_map.1 h
    exact ⟨hp, hn⟩
  · rintro ⟨h1, h2⟩
    exact ⟨x.1, h1, List.mem_map.2 ⟨x.2, h2, rfl⟩⟩
theorem KL_len (ns : List Int) (K : List Pt) : (KL ns K).length = K.length * (nodesOf ns).length := by
  unfold KL
  induction K with
  | nil => simp
  | cons p r ih => rw [List.flatMap_cons, List.length_append, ih, List.length_map, List.length_cons, Nat.add_mul]; omega
theorem KL_snoc (ns : List Int) (K : List Pt) (p : Pt) : KL ns (K ++ [p]) = KL ns K ++ (nodesOf ns).map fun n => (p, n) := by unfold KL; rw [List.flatMap_append]; simp
def addK (K : List Pt) (p : Pt) : List Pt := if PtOk p ∧ p ∉ K then K ++ [p] else K
theorem more_new {ns : List Int} {K : List Pt} {p : Pt} (h : p ∉ K) : moreH (KL ns K) p ns = (nodesOf ns).map fun n => (p, n) := by
  have e : moreH (KL ns K) p ns = ((nodesOf ns).map fun k => (p, k)).filter fun x => decide (x ∉ KL ns K) := rfl
  rw [e]
  refine List.filter_eq_self.2 fun x hx => ?_
  obtain ⟨n, _, rfl⟩ := List.mem_map.1 hx
  simp only [decide_eq_true_eq]
  exact fun z => h (KL_mem.1 z).1
theorem more_had {ns : List Int} {K : List Pt} {p : Pt} (h : p ∈ K) : moreH (KL ns K) p ns = [] := by
  have e : moreH (KL ns K) p ns = ((nodesOf ns).map fun k => (p, k)).filter fun x => decide (x ∉ KL ns K) := rfl
  rw [e]
  refine List.filter_eq_nil_iff.2 fun x hx => ?_
  obtain ⟨n, hn, rfl⟩ := List.mem_map.1 hx
  simp only [decide_eq_true_eq, Decidable.not_not]
  exact KL_mem.2 ⟨h, hn⟩
theorem add_iff {ns : List Int} {K : List Pt} (hK : K.length ≤ 30) (p : Pt) : addOk 600 (KL ns K) p ns ↔ PtOk p := by
  unfold addOk
  refine ⟨fun z => z.1, fun z => ⟨z, ?_⟩⟩
  have h1 := nodesOf_len ns
  have h3 : (KL ns K).length ≤ 30 * 16 := by rw [KL_len]; exact Nat.mul_le_mul hK h1
  have h2 : (moreH (KL ns K) p ns).length ≤ 16 := moreT_len _ _ _ 16
  omega
theorem add_list {ns : List Int} {K : List Pt} (hK : K.length ≤ 30) (p : Pt) : (if addOk 600 (KL ns K) p ns then KL ns K ++ moreH (KL ns K) p ns else KL ns K) = KL ns (addK K p) := by
  unfold addK
  by_cases h1 : PtOk p
  · rw [if_pos ((add_iff hK p).2 h1)]
    by_cases h2 : p ∈ K
    · rw [more_had h2, if_neg (fun z => z.2 h2), List.append_nil]
    · rw [more_new h2, if_pos ⟨h1, h2⟩, KL_snoc]
  · rw [if_neg (fun z => h1 ((add_iff hK p).1 z)), if_neg (fun z => h1 z.1)]
/-- Points that were kept. -/
structure Kept (K : List Pt) : Prop where
  nd : K.Nodup
  ok : ∀ p ∈ K, PtOk p ∧ PtW p
theorem Kept.nil : Kept [] := ⟨List.nodup_nil, fun p hp => by cases hp⟩
theorem Kept.add {K : List Pt} (h : Kept K) {p : Pt} (hw : PtW p) : Kept (addK K p) := by
  unfold addK
  split
  · rename_i hp
    refine ⟨?_, fun q hq => ?_⟩
    · rw [List.nodup_append]
      exact ⟨h.nd, by simp, fun a ha c hc e => hp.2 (by rw [List.mem_singleton.1 hc] at e; rw [← e]; exact ha)⟩
    · rcases List.mem_append.1 hq with hq | hq
      · exact h.ok q hq
      · rw [List.mem_singleton.1 hq]; exact ⟨hp.1, hw⟩
  · exact h
theorem addK_len (K : List Pt) (p : Pt) : (addK K p).length ≤ K.length + 1 := by unfold addK; split <;> simp
theorem KL_nodup {ns : List Int} {K : List Pt} (h : Kept K) : (KL ns K).Nodup := by
  unfold KL
  have h0 := h.nd
  clear h
  induction K with
  | nil => exact List.nodup_nil
  | cons p r ih =>
    rw [List.nodup_cons] at h0
    rw [List.flatMap_cons, List.nodup_append]
    refine ⟨?_, ih h0.2, ?_⟩
    · show List.Pairwise _ _
      rw [List.pairwise_map]
      exact (List.nodup_iff_pairwise_ne.1 (nodesOf_nodup ns)).imp (fun h e => h (Prod.mk.inj e).2)
    · intro a ha c hc e
      obtain ⟨n, _, rfl⟩ := List.mem_map.1 ha
      rw [← e] at hc
      exact h0.1 (KL_mem (ns := ns).1 hc).1
theorem OneH.addK {w0 w : World} {p b : Nat} {ns : List Int} {K : List Pt} (h : OneH w0 w p b 600 (KL ns K)) (hK : K.length ≤ 30) (x : Pt) (hv : I64 x.v) (v : Value) (hns : rdRow w 1 v ns.length (encI ns)) (hnl : ns.length ≤ 1000000) :
    Calls Try.prog 12 #[.pointer (some ⟨p, 0, none⟩), ptV x, v] w fun e w' => e = .returned (.bool (decide (PtOk x))) ∧ OneH w0 w' p b 600 (KL ns (Go.Proofs.Ytijgbfhjimlklaa.addK K x)) ∧ Bt (fun k => k = b) w w' := by
  have hl : (KL ns K).length ≤ 600 := by
    have h3 : (KL ns K).length ≤ 30 * 16 := by rw [KL_len]; exact Nat.mul_le_mul hK (nodesOf_len ns)
    omega
  refine (add_calls w p (some b) 600 (KL ns K) h.at_ (by decide) (fun z => by cases z) hl x hv v ns hns hnl).mono ?_
  rintro e w' ⟨rfl, ha, hb⟩
  rw [add_list hK] at ha
  have hd : decide (addOk 600 (KL ns K) x ns) = decide (PtOk x) := decide_eq_decide.2 (add_iff hK x)
  rw [hd]
  exact ⟨rfl, h.turn ha hb, hb.mono (fun k _ z => by injection z with z; exact z.symm)⟩
end Go.Proofs.Ytijgbfhjimlklaa
