/- The ring: the first point from a hash on. -/
import Derived.Test.YtomhdkppgfcaaaaRgE
import Derived.Deep.RegionHeld
namespace Go.Proofs.Ytomhdkppgfcaaaa
open Go.RowKit

theorem encPs_get (l : List Pt) (k : Nat) (h : k < l.length) : (encPs l)[k * 2]? = some (.int .u64 (l[k]).1) ∧ (encPs l)[k * 2 + 1]? = some (.int .i64 (l[k]).2) := flat2_get (fun x : Pt => Value.int .u64 x.1) (fun x : Pt => Value.int .i64 x.2) l k h
/-- How many points lie ahead of a hash. -/
def lo (ps : List Pt) (h : Int) : Nat := (ps.takeWhile fun x => decide (x.1 < h)).length
theorem lo_le (ps : List Pt) (h : Int) : lo ps h ≤ ps.length := (List.takeWhile_sublist _).length_le
theorem lo_lt {h : Int} : ∀ {ps : List Pt} {j : Nat} (hj : j < ps.length), j < lo ps h → (ps[j]).1 < h
  | [], _, hj, _ => by simp at hj
  | x :: r, 0, _, hl => by
    unfold lo at hl
    by_cases hx : x.1 < h
    · simpa using hx
    · simp [List.takeWhile, hx] at hl
  | x :: r, j + 1, hj, hl => by
    unfold lo at hl
    by_cases hx : x.1 < h
    · simp [List.takeWhile, hx] at hl
      simpa using lo_lt (ps := r) (by simpa using hj) hl
    · simp [List.takeWhile, hx] at hl
theorem lo_ge {h : Int} : ∀ {ps : List Pt} (_ : ps.Pairwise leP) {j : Nat} (hj : j < ps.length), lo ps h ≤ j → h ≤ (ps[j]).1
  | [], _, _, hj, _ => by simp at hj
  | x :: r, hs, j, hj, hl => by
    have hs' := List.pairwise_cons.1 hs
    by_cases hx : x.1 < h
    · have e : lo (x :: r) h = lo r h + 1 := by simp [lo, List.takeWhile, hx]
      rw [e] at hl
      match j, hj, hl with
      | j + 1, hj, hl => simpa using lo_ge hs'.2 (by simpa using hj) (by omega)
    · match j, hj with
      | 0, _ => simpa using Int.not_lt.1 hx
      | j + 1, hj =>
        have := hs'.1 _ (List.getElem_mem (l := r) (n := j) (by simpa using hj))
        simp only [List.getElem_cons_succ]
        unfold leP at this; omega
theorem pcmp_calls (x : Pt) (h : Int) (w : World) :
    Calls Try.prog 32 #[.agg #[.int .u64 x.1, .int .i64 x.2], .int .u64 h] w fun e w' => e = .returned (.int .i64 (cmpI x.1 h)) ∧ Gr w w' := by
  obtain ⟨a, b⟩ := x
  go_enter Try.func32, Try.ntmps32
  go_wp2_with (go_at_call 29; refine (cmpU_calls _ _ _).mono ?_; rintro e w' ⟨rfl, rfl⟩)
  go_ret
  exact ⟨rfl, by (repeat (first | exact Gr.rfl' | refine Gr.al ?_ _ | refine Gr.dr ?_ | refine Gr.drN ?_ | refine Gr.sc ?_ (by simp <;> omega) _ | refine Gr.tr ?_ (by assumption)))⟩
theorem cmpI_lt {a b : Int} : cmpI a b < 0 ↔ a < b := by unfold cmpI; split <;> (try split) <;> omega
set_option maxRecDepth 100000 in
set_option maxHeartbeats 2000000 in
theorem bin_calls (ps : List Pt) (h : Int) (v : Value) (w : World) (hv : rdRow w 2 v ps.length (encPs ps)) (hk : ps.length ≤ 1000) (hs : ps.Pairwise leP) :
    Calls Try.prog 31 #[v, .int .u64 h, .func (.func 32) #[] #[]] w fun e w' => (∃ fv : Value, e = .returned (.tuple #[.int .i64 (lo ps h), fv])) ∧ Gr w w' := by
  have hl := lo_le ps h
  have h1 := fun j (hj : j < ps.length) => lo_lt (h := h) hj
  have h2 := fun j (hj : j < ps.length) => lo_ge (h := h) hs hj
  obtain ⟨_, va, vcap, rfl, hcap, hrd⟩ := hv
  have hrd' : 0 < ps.length → ∃ b o, va = some ⟨b, o, none⟩ ∧ ∀ j (hj : j < ps.length), w.cell? ⟨b, o + j * 2, none⟩ = some (.int .u64 (ps[j]).1) ∧ w.cell? ⟨b, o + j * 2 + 1, none⟩ = some (.int .i64 (ps[j]).2) := fun h0 => by
    obtain ⟨b, o, e, h3⟩ := hrd h0
    exact ⟨b, o, e, fun j hj => ⟨h3 _ _ (encPs_get ps j hj).1, by have := h3 _ _ (encPs_get ps j hj).2; rwa [← Nat.add_assoc] at this⟩⟩
  generalize lo ps h = L at *
  have Hrd := Lib.hid hrd'; have H1 := Lib.hid h1; have H2 := Lib.hid h2
  clear hrd hrd' h1 h2 hs
  go_enter Try.func31, Try.ntmps31
  go_wp2_with fail
  go_loopw [9, 10] (fun a b wr => ∃ i j : Nat, a = .int .i64 i ∧ b = .int .i64 j ∧ i ≤ L ∧ L ≤ j ∧ j ≤ ps.length ∧ Gr w wr) (fun a b _ => ((intOf b) - (intOf a)).toNat)
  case atStart => exact ⟨0, ps.length, rfl, rfl, by omega, hl, by omega, Gr.rfl'⟩
  case round =>
    obtain ⟨i, j, rfl, rfl, hi, hj, hjn, hg⟩ := hrel
    by_cases hij : i < j
    · have hij' : (i : Int) < j := by omega
      obtain ⟨m, hm⟩ : ∃ m : Nat, (i + j) / 2 = m := ⟨_, rfl⟩
      have hm1 : ((i : Int) + j) / 2 = m := by omega
      have hmj : i ≤ m ∧ m < j := by omega
      have hml : m < ps.length := by omega
      obtain ⟨b, o, rfl, hc⟩ := Hrd.out (by omega)
      have c0 := keepc hg (hc m hml).1
      have c1 := keepc hg (hc m hml).2
      have X1 := Lib.hid (H1.out m hml)
      have X2 := Lib.hid (H2.out m hml)
      have Hpc := Lib.hid (pcmp_calls ps[m] h)
      clear hc hm
      generalize ps[m] = x at *
      obtain ⟨xa, xb⟩ := x
      have g1 : (0 : Int) ≤ (m : Int) := by omega
      have g2 : (m : Int) < (ps.length : Int) := by omega
      go_wp2_with fail
      refine (Hpc.out _).mono ?_
      rintro e w1 ⟨rfl, hb⟩
      by_cases hlt : cmpI xa h < 0
      · have hx := cmpI_lt.1 hlt
        go_wp2_with fail
        go_roundw
        case rel => exact ⟨m + 1, j, by go_num, rfl, by
          rcases Nat.lt_or_ge m L with h5 | h5
          · omega
          · have h6 : h ≤ xa := X2.out h5
            omega, hj, hjn, by (repeat (first | exact Gr.rfl' | refine Gr.al ?_ _ | refine Gr.dr ?_ | refine Gr.drN ?_ | refine Gr.sc ?_ (by simp <;> omega) _ | refine Gr.tr ?_ (by assumption)))⟩
        case measure => simp [intOf]; omega
      · have hx : ¬ xa < h := fun h5 => hlt (cmpI_lt.2 h5)
        go_wp2_with fail
        go_roundw
        case rel => exact ⟨i, m, rfl, rfl, hi, by
          rcases Nat.lt_or_ge m L with h5 | h5
          · have h6 : xa < h := X1.out h5
            omega
          · exact h5, by omega, by (repeat (first | exact Gr.rfl' | refine Gr.al ?_ _ | refine Gr.dr ?_ | refine Gr.drN ?_ | refine Gr.sc ?_ (by simp <;> omega) _ | refine Gr.tr ?_ (by assumption)))⟩
        case measure => simp [intOf]; omega
    · obtain rfl : i = L := by omega
      obtain rfl : j = i := by omega
      have hnij : ¬ (j : Int) < (j : Int) := by omega
      by_cases hL : j < ps.length
      · have hd : decide ((j : Int) < (ps.length : Int)) = true := decide_eq_true (by omega)
        obtain ⟨b, o, rfl, hc⟩ := Hrd.out (by omega)
        have c0 := keepc hg (hc j hL).1
        have c1 := keepc hg (hc j hL).2
        have Hpc := Lib.hid (pcmp_calls ps[j] h)
        clear hc
        generalize ps[j] = x at *
        obtain ⟨xa, xb⟩ := x
        have g1 : (0 : Int) ≤ (j : Int) := by omega
        have g2 : (j : Int) < (ps.length : Int) := by omega
        go_wp2_with fail
        refine (Hpc.out _).mono ?_
        rintro e w1 ⟨rfl, hb⟩
        go_wp2_with fail
        go_ret2
        exact ⟨⟨_, rfl⟩, by (repeat (first | exact Gr.rfl' | refine Gr.al ?_ _ | refine Gr.dr ?_ | refine Gr.drN ?_ | refine Gr.sc ?_ (by simp <;> omega) _ | refine Gr.tr ?_ (by assumption)))⟩
      · have hd : decide ((j : Int) < (ps.length : Int)) = false := decide_eq_false (by omega)
        go_wp2_with fail
        go_ret2
        exact ⟨⟨_, rfl⟩, hg⟩
end Go.Proofs.Ytomhdkppgfcaaaa
