import Derived.Test.YtafdddakkenlaaaWinE
namespace Go.Proofs.Ytafdddakkenlaaa
open Go.RowKit
attribute [local go_sem] max2_mx min2_mn max_two' min_two'
attribute [local go_sem ↓] field26_0 field26_1

abbrev Sp := Int × Int
def encS (l : List Sp) : List Value := l.flatMap fun x => [.int .i64 x.1, .int .i64 x.2]
theorem encS_len (l : List Sp) : (encS l).length = l.length * 2 := by
  induction l with
  | nil => rfl
  | cons x r ih => simp only [encS, List.flatMap_cons, List.length_append, List.length_cons] at *; rw [ih]; simp; omega
theorem encS_get (l : List Sp) (k : Nat) (h : k < l.length) : (encS l)[k * 2]? = some (.int .i64 (l[k]).1) ∧ (encS l)[k * 2 + 1]? = some (.int .i64 (l[k]).2) :=
  flat2_get (fun x : Sp => .int .i64 x.1) (fun x : Sp => .int .i64 x.2) l k h
def okS (l : List Sp) : Prop := l.length ≤ 1000000 ∧ ∀ x ∈ l, 0 ≤ x.1 ∧ x.1 ≤ x.2 ∧ x.2 ≤ 1099511627777
def szS (l : List Sp) : Int := (l.map fun x => x.2 - x.1).sum
theorem szS_take (l : List Sp) (k : Nat) (h : k < l.length) : szS (l.take (k + 1)) = szS (l.take k) + ((l[k]).2 - (l[k]).1) := by
  unfold szS; rw [List.take_succ_eq_append_getElem h, List.map_append, List.sum_append]; simp
theorem szS_bd (l : List Sp) (h : ∀ x ∈ l, 0 ≤ x.1 ∧ x.1 ≤ x.2 ∧ x.2 ≤ 1099511627777) : 0 ≤ szS l ∧ szS l ≤ 1099511627777 * l.length := by
  induction l with
  | nil => simp [szS]
  | cons x r ih =>
    have h1 := ih (fun y hy => h y (by simp [hy]))
    have h2 := h x (by simp)
    have e : szS (x :: r) = (x.2 - x.1) + szS r := by simp [szS]
    rw [e]; simp only [List.length_cons]; omega

set_option maxHeartbeats 1000000 in
theorem size_calls (v : Value) (l : List Sp) (w : World) (hv : rdRow w 2 v l.length (encS l)) (hk : okS l) :
    Calls Try.prog 47 #[v] w fun e w' => e = .returned (.int .i64 (szS l)) ∧ Gr w w' := by
  obtain ⟨_, a, cap, rfl, hcap, hrd⟩ := hv
  obtain ⟨hn, hb⟩ := hk
  go_enter Try.func47, Try.ntmps47
  go_wp2_with fail
  go_loopw [3, 8] (fun s i wr => ∃ k : Nat, k ≤ l.length ∧ i = .int .i64 k ∧ s = .int .i64 (szS (l.take k)) ∧ Gr w wr) (fun _ i _ => l.length - (intOf i).toNat)
  case atStart => exact ⟨0, Nat.zero_le _, rfl, by simp [szS], Gr.rfl'⟩
  case round =>
    obtain ⟨k, hkl, rfl, rfl, hg⟩ := hrel
    by_cases hlt : k < l.length
    · obtain ⟨b, o, rfl, hc⟩ := hrd (by omega)
      have c0 := keepc hg (hc _ _ (encS_get l k hlt).1)
      have c1 := keepc hg (hc _ _ (encS_get l k hlt).2)
      rw [← Nat.add_assoc] at c1
      clear hc hrd
      have hx := hb l[k] (List.getElem_mem hlt)
      have hs := szS_bd (l.take k) (fun x hx => hb x (List.mem_of_mem_take hx))
      have ht : (l.take k).length ≤ k := List.length_take_le _ _
      have hst := Lib.hid (szS_take l k hlt)
      clear hb
      go_wp2
      go_roundw
      case rel => exact ⟨k + 1, by omega, by go_num, by rw [hst.out], by (repeat (first | exact Gr.rfl' | refine Gr.al ?_ _ | refine Gr.dr ?_ | refine Gr.drN ?_ | refine Gr.sc ?_ (by simp <;> omega) _ | refine Gr.tr ?_ (by assumption)))⟩
      case measure => simp [intOf]; omega
    · obtain rfl : k = l.length := by omega
      clear hrd
      go_wp2
      go_ret; exact ⟨ret_i rfl (by rw [List.take_length]), by (repeat (first | exact Gr.rfl' | refine Gr.al ?_ _ | refine Gr.dr ?_ | refine Gr.drN ?_ | refine Gr.sc ?_ (by simp <;> omega) _ | refine Gr.tr ?_ (by assumption)))⟩
end Go.Proofs.Ytafdddakkenlaaa
