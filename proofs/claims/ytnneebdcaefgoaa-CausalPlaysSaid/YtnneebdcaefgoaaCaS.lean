/- The laws' records. -/
import Derived.Test.YtnneebdcaefgoaaCaK
namespace Go.Proofs.Ytnneebdcaefgoaa
open Go.RowKit

def recOf (site seq : Int) (deps : List Int) : Rec := ⟨1, ⟨#[97]⟩, seq, 0, 0, seq, site, seq, deps⟩
set_option maxRecDepth 100000 in
set_option maxHeartbeats 2000000 in
theorem record_calls (site seq : Int) (a : Option Addr) (n c : Nat) (deps : List Int) (w : World) :
    Calls Try.prog 29 #[.int .i64 site, .int .i64 seq, .slice a n c] w fun e w' => e = .returned (recV (recOf site seq deps) (.slice a n c)) ∧ Gr w w' := by
  unfold recV recOf
  go_enter Try.func29, Try.ntmps29
  go_wp2_with fail
  exact bodyPost_ret (v := .agg #[.int .i64 1, .string ⟨#[97]⟩, .int .i64 seq, .int .i64 0, .int .i64 0, .int .i64 seq, .int .i64 site, .int .i64 seq, .slice a n c]) (by simp [results, Try.results29, go_sem, *]) rfl ⟨rfl, by (with_reducible (repeat (first | assumption | exact Gr.rfl' | refine Gr.al ?_ _ | refine Gr.dr ?_ | refine Gr.drN ?_ | refine Gr.sc ?_ (by simp <;> omega) _)))⟩
theorem few_same (a : Option Addr) (l : List Int) (c : Nat) (hc : l.length ≤ c) (hk : l.length ≤ maxLen) (w : World) :
    Calls Try.prog 23 #[.slice a l.length c] w fun e w' => e = .returned (.slice a (l.take 12).length c) ∧ w = w' := by
  unfold maxLen at hk
  by_cases h : 12 < l.length
  · have h1 : (12 : Int) < l.length := by omega
    have h2 : (12 : Int) ≤ c := by omega
    have e : (l.take 12).length = 12 := by rw [List.length_take]; omega
    rw [e]
    clear h hc e
    go_enter Try.func23, Try.ntmps23
    go_wp2_with fail
    go_ret
    exact ⟨rfl, rfl⟩
  · have h1 : ¬ (12 : Int) < l.length := by omega
    have e : l.take 12 = l := List.take_of_length_le (by omega)
    rw [e]
    clear h hc e
    go_enter Try.func23, Try.ntmps23
    go_wp2_with fail
    go_ret
    exact ⟨rfl, rfl⟩
set_option maxRecDepth 100000 in
set_option maxHeartbeats 3000000 in
theorem small_calls (r : Rec) (d : Value) (w : World) (hd : rdRow w 1 d r.d.length (encI r.d)) (hk : r.d.length ≤ maxLen) :
    Calls Try.prog 15 #[recV r d] w fun e w' => ∃ s' a c, d = .slice a r.d.length c ∧ e = .returned (recV { r with s := s', d := r.d.take 12 } (.slice a (r.d.take 12).length c)) ∧ s'.size ≤ 60 ∧ rdRow w' 1 (.slice a (r.d.take 12).length c) (r.d.take 12).length (encI (r.d.take 12)) ∧ Gr w w' := by
  have hd0 := hd
  obtain ⟨a, c, rfl, hc, _⟩ := rd_at hd
  have Hf := Lib.hid (few_same a r.d c hc hk)
  have Hd := Lib.hid (rd_take hd0 (m := (r.d.take 12).length) (by rw [List.length_take]; omega))
  have Ht := Lib.hid (show r.d.take (r.d.take 12).length = r.d.take 12 by rw [List.length_take]; exact List.take_eq_take_min.symm)
  unfold recV
  clear hd hd0
  by_cases h : 60 < r.s.size
  · have h1 : (60 : Int) < r.s.size := by omega
    go_enter Try.func15, Try.ntmps15
    go_wp2_with fail
    refine (Hf.out _).mono ?_
    rintro e w1 ⟨rfl, rfl⟩
    have hs6 : (r.s.extract 0 60).size ≤ 60 := by simp [ByteArray.size_extract]; omega
    generalize r.s.extract 0 60 = s2 at *
    go_wp2_with fail
    exact bodyPost_ret (v := .agg #[.int .i64 r.k, .string s2, .int .i64 r.t, .int .i64 r.v, .int .i64 r.tier, .int .i64 r.c, .int .i64 r.st, .int .i64 r.q, .slice a (r.d.take 12).length c]) (by simp [results, Try.results15, go_sem, *]) rfl ⟨s2, a, c, rfl, rfl, hs6, (Ht.out ▸ Hd.out).gr (by (with_reducible (repeat (first | assumption | exact Gr.rfl' | refine Gr.al ?_ _ | refine Gr.dr ?_ | refine Gr.drN ?_ | refine Gr.sc ?_ (by simp <;> omega) _)))), by (with_reducible (repeat (first | assumption | exact Gr.rfl' | refine Gr.al ?_ _ | refine Gr.dr ?_ | refine Gr.drN ?_ | refine Gr.sc ?_ (by simp <;> omega) _)))⟩
  · have h1 : ¬ (60 : Int) < r.s.size := by omega
    go_enter Try.func15, Try.ntmps15
    go_wp2_with fail
    refine (Hf.out _).mono ?_
    rintro e w1 ⟨rfl, rfl⟩
    go_wp2_with fail
    exact bodyPost_ret (v := .agg #[.int .i64 r.k, .string r.s, .int .i64 r.t, .int .i64 r.v, .int .i64 r.tier, .int .i64 r.c, .int .i64 r.st, .int .i64 r.q, .slice a (r.d.take 12).length c]) (by simp [results, Try.results15, go_sem, *]) rfl ⟨r.s, a, c, rfl, rfl, by omega, (Ht.out ▸ Hd.out).gr (by (with_reducible (repeat (first | assumption | exact Gr.rfl' | refine Gr.al ?_ _ | refine Gr.dr ?_ | refine Gr.drN ?_ | refine Gr.sc ?_ (by simp <;> omega) _)))), by (with_reducible (repeat (first | assumption | exact Gr.rfl' | refine Gr.al ?_ _ | refine Gr.dr ?_ | refine Gr.drN ?_ | refine Gr.sc ?_ (by simp <;> omega) _)))⟩
end Go.Proofs.Ytnneebdcaefgoaa
