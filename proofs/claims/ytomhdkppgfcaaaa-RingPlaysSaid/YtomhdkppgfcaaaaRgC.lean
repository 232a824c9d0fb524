/- The ring: points sorted. -/
import Derived.Test.YtomhdkppgfcaaaaRgB
namespace Go.Proofs.Ytomhdkppgfcaaaa
open Go.RowKit Go.Sort Go.Shelf

def encP (x : Pt) : List Value := [.int .u64 x.1, .int .i64 x.2]
abbrev encPs (l : List Pt) : List Value := l.flatMap encP
def ltP (x y : Pt) : Prop := x.1 < y.1 ∨ (x.1 = y.1 ∧ x.2 < y.2)
def leP (x y : Pt) : Prop := x.1 < y.1 ∨ (x.1 = y.1 ∧ x.2 ≤ y.2)
instance : DecidableRel leP := fun x y => by unfold leP; exact inferInstance
theorem cmpP_lt (x y : Pt) : cmpP x y < 0 ↔ ltP x y := by
  unfold cmpP cOr cmpI ltP
  repeat' split
  all_goals omega
theorem ltOf_P (x y : Pt) : ltOf cmpP x y = true ↔ ltP x y := by
  rw [← cmpP_lt]; simp [ltOf]
theorem ltOf_Pf (x y : Pt) : ltOf cmpP x y = false ↔ leP y x := by
  rw [← Bool.not_eq_true, ltOf_P]; unfold ltP leP; omega
theorem swoP : SWO (ltOf cmpP) where
  irrefl x := by rw [ltOf_Pf]; unfold leP; omega
  trans x y z h1 h2 := by rw [ltOf_P] at *; unfold ltP at *; omega
  ntrans x y z h1 h2 := by rw [ltOf_Pf] at *; unfold leP at *; omega
theorem leP_antisymm {x y : Pt} (h1 : leP x y) (h2 : leP y x) : x = y := by
  obtain ⟨a, b⟩ := x; obtain ⟨c, d⟩ := y
  unfold leP at *; simp only at *
  have e1 : a = c := by omega
  have e2 : b = d := by omega
  rw [e1, e2]
/-- Sorted lists of the same points are the same. -/
theorem sorted_unique : ∀ {l1 l2 : List Pt}, l1.Perm l2 → l1.Pairwise leP → l2.Pairwise leP → l1 = l2
  | [], l2, hp, _, _ => by have := hp.symm.eq_nil; rw [this]
  | x :: l1, [], hp, _, _ => by have := hp.eq_nil; cases this
  | x :: l1, y :: l2, hp, h1, h2 => by
    have hx : x = y := by
      have mx : x ∈ y :: l2 := hp.mem_iff.1 (List.mem_cons_self ..)
      have my : y ∈ x :: l1 := hp.mem_iff.2 (List.mem_cons_self ..)
      rcases List.mem_cons.1 mx with e | m1
      · exact e
      · rcases List.mem_cons.1 my with e | m2
        · exact e.symm
        · exact leP_antisymm (List.rel_of_pairwise_cons h1 m2) (List.rel_of_pairwise_cons h2 m1)
    subst hx
    rw [sorted_unique (List.perm_cons x |>.1 hp) (List.pairwise_cons.1 h1).2 (List.pairwise_cons.1 h2).2]

set_option maxHeartbeats 1000000 in
theorem sort_calls (l : List Pt) (hl : l.length ≤ 1000000) (g cap base : Nat) (w : World)
    (h : w.ownsRow base 59 2 (.slice (some ⟨g, 0, none⟩) l.length cap) l.length (encPs l)) (hgw : g < w.heap.size) :
    Calls Try.prog 26 #[.slice (some ⟨g, 0, none⟩) l.length cap, .func (.func 27) #[] #[]] w fun e w' => e = .returned (.tuple #[]) ∧ ∃ l', l'.Perm l ∧ l'.Pairwise leP ∧ w'.ownsRow base 59 2 (.slice (some ⟨g, 0, none⟩) l.length cap) l.length (encPs l') ∧ w.grownBy w' (some g) := by
  have eg : ∀ args w, (callFunc 27 args).run Try.prog w = .ok (.enter 27 args) w := enters_of Try.func27 (by kernel_rfl) rfl
  have hk : ∀ x : Pt, (encP x).length = 2 := fun _ => rfl
  have hcmp : CmpLays Try.prog 27 #[] encP 2 cmpP g 0 l.toArray.size w := fun _ _ _ _ x y => less_calls x y _
  have hs := AnyQ.slices_SortFunc sortS 2 Try.isAgg59 Try.sizeOf59 encP hk (fun x v hv => by simp [encP] at hv; rcases hv with rfl | rfl <;> rfl) cmpP swoP 27 #[] g 0 cap l.toArray w eg hcmp (holds_of_own encP 2 hk h) hgw (by simp; omega)
  change Calls Try.prog 26 _ _ _ at hs
  have ea : l.toArray.size = l.length := by simp
  rw [ea] at hs
  refine hs.mono ?_
  rintro e w' ⟨rfl, d', n, os, hp, hso, rfl⟩
  have hd : d'.size = l.length := by rw [hp.1]; simp
  have ho := sort_own encP 2 hk h n d' hd os
  refine ⟨rfl, d'.toList, ?_, ?_, ho.1, ho.2⟩
  · have := hp.2.2
    rw [← hd] at this
    have e1 : (d'.extract 0 d'.size).toList = d'.toList := by simp
    have e2 : (l.toArray.extract 0 d'.size).toList = l := by rw [hd]; simp
    rw [e1, e2] at this
    exact this
  · rw [List.pairwise_iff_getElem]
    intro i j hi hj hij
    have := hso i j (Nat.zero_le _) hij (by rw [← hd]; simpa using hj)
    rw [getElem!_pos d' j (by simpa using hj), getElem!_pos d' i (by simpa using hi)] at this
    exact (ltOf_Pf _ _).1 this
end Go.Proofs.Ytomhdkppgfcaaaa
