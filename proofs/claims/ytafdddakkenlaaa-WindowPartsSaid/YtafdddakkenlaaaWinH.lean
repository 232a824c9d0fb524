import Derived.Test.YtafdddakkenlaaaWinG
import Derived.Test.YtafdddakkenlaaaUs
import Derived.Test.YtafdddakkenlaaaLa
namespace Go.Proofs.Ytafdddakkenlaaa
open Go.RowKit Go.Sort Go.Shelf

abbrev BSp := {x : Sp // 0 ≤ x.1 ∧ x.1 ≤ 1099511627777}
instance : Inhabited BSp := ⟨⟨(0, 0), by simp⟩⟩
def encB (x : BSp) : List Value := [.int .i64 x.1.1, .int .i64 x.1.2]
def cmpB (x y : BSp) : Int := x.1.1 - y.1.1

set_option maxHeartbeats 1000000 in
theorem less_calls (a b c d : Int) (h : 0 ≤ a ∧ a ≤ 1099511627777 ∧ 0 ≤ c ∧ c ≤ 1099511627777) (W : World) :
    Calls Try.prog 50 #[.agg #[.int .i64 a, .int .i64 b], .agg #[.int .i64 c, .int .i64 d]] W fun e w' => e = .returned (.int .i64 (a - c)) ∧ ∃ q os', w' = grow (W.drewN q) os' := by
  go_enter Try.func50, Try.ntmps50
  go_wp2
  go_ret
  exact ⟨rfl, 0, _, by rw [alloc_eq_grow, alloc_eq_grow, grow_grow]; rfl⟩

theorem ltB (x y : BSp) : ltOf cmpB x y = decide (x.1.1 - y.1.1 < 0) := rfl
theorem swoB : SWO (ltOf cmpB) where
  irrefl x := by rw [ltB]; simp
  trans x y z h1 h2 := by rw [ltB, decide_eq_true_eq] at *; omega
  ntrans x y z h1 h2 := by rw [ltB, decide_eq_false_iff_not] at *; omega

theorem encB_S (l : List BSp) : l.flatMap encB = encS (l.map (·.1)) := by
  induction l with
  | nil => rfl
  | cons x r ih => rw [List.flatMap_cons, ih]; simp [encS, encB]

def sortedS (l : List Sp) : Prop := l.Pairwise fun x y => x.1 ≤ y.1

theorem sort_calls (l : List Sp) (hb : ∀ x ∈ l, 0 ≤ x.1 ∧ x.1 ≤ 1099511627777) (hl : l.length ≤ 1000000) (g cap base : Nat) (w : World)
    (h : w.ownsRow base 26 2 (.slice (some ⟨g, 0, none⟩) l.length cap) l.length (encS l)) (hgw : g < w.heap.size) :
    Calls Try.prog 49 #[.slice (some ⟨g, 0, none⟩) l.length cap, .func (.func 50) #[] #[]] w fun e w' => e = .returned (.tuple #[]) ∧ ∃ l', l'.Perm l ∧ sortedS l' ∧ w'.ownsRow base 26 2 (.slice (some ⟨g, 0, none⟩) l.length cap) l.length (encS l') ∧ w.grownBy w' (some g) := by
  have eg : ∀ args w, (callFunc 50 args).run Try.prog w = .ok (.enter 50 args) w := enters_of Try.func50 (by kernel_rfl) rfl
  let lb : List BSp := l.attach.map fun x => ⟨x.1, hb x.1 x.2⟩
  have hlb : lb.map (·.1) = l := by
    show List.map _ (List.map _ _) = l
    rw [List.map_map]; exact List.attach_map_subtype_val l
  have hll : lb.length = l.length := by simp [lb]
  have hown : w.ownsRow base 26 2 (.slice (some ⟨g, 0, none⟩) lb.length cap) lb.length (lb.flatMap encB) := by rw [encB_S, hlb, hll]; exact h
  have hk : ∀ x : BSp, (encB x).length = 2 := fun _ => rfl
  have hcmp : CmpLays Try.prog 50 #[] encB 2 cmpB g 0 lb.toArray.size w := fun _ _ _ _ x y => less_calls x.1.1 x.1.2 y.1.1 y.1.2 ⟨x.2.1, x.2.2, y.2.1, y.2.2⟩ _
  have hs := AnyQ.slices_SortFunc sortS 2 Try.isAgg26 Try.sizeOf26 encB hk (fun x v hv => by simp [encB] at hv; rcases hv with rfl | rfl <;> rfl) cmpB swoB 50 #[] g 0 cap lb.toArray w eg hcmp (holds_of_own encB 2 hk hown) hgw (by simp; omega)
  change Calls Try.prog 49 _ _ _ at hs
  have ea : lb.toArray.size = l.length := by simp [hll]
  rw [ea] at hs
  refine hs.mono ?_
  rintro e w' ⟨rfl, d', n, os, hp, hso, rfl⟩
  have hd : d'.size = lb.length := by rw [hp.1]; simp
  have ho := sort_own encB 2 hk hown n d' hd os
  refine ⟨rfl, d'.toList.map (·.1), ?_, ?_, ?_, ho.2⟩
  · have := hp.2.2
    rw [← hll, ← hd] at this
    have e1 : (d'.extract 0 d'.size).toList = d'.toList := by simp
    have e2 : (lb.toArray.extract 0 d'.size).toList = lb := by rw [hd]; simp
    rw [e1, e2] at this
    rw [← hlb]
    exact this.map _
  · unfold sortedS
    rw [List.pairwise_map, List.pairwise_iff_getElem]
    intro i j hi hj hij
    have := hso i j (Nat.zero_le _) hij (by rw [← hll, ← hd]; simpa using hj)
    rw [getElem!_pos d' j (by simpa using hj), getElem!_pos d' i (by simpa using hi)] at this
    rw [ltB, decide_eq_false_iff_not] at this
    simp only [Array.getElem_toList]
    omega
  · have := ho.1
    rw [hll, encB_S] at this
    exact this
end Go.Proofs.Ytafdddakkenlaaa
