/- Points, plain; how they are checked and held against each other (both versions). -/
import Derived.Test.YtpnpnjfflblkpaaGn
namespace Go.Proofs.Ytpnpnjfflblkpaa
open Go.RowKit

def topN : Int := 1099511627776
/-- A point. -/
structure Pt where
  s : ByteArray
  t : Int
  v : Int
  c : Int
  st : Int
  q : Int
instance : DecidableEq Pt := fun a b => decidable_of_iff (a.s = b.s ∧ a.t = b.t ∧ a.v = b.v ∧ a.c = b.c ∧ a.st = b.st ∧ a.q = b.q) (by cases a; cases b; simp)
def noPt : Pt := ⟨⟨#[]⟩, 0, 0, 0, 0, 0⟩
instance : Inhabited Pt := ⟨noPt⟩
abbrev ptC (p : Pt) : List Value := [.string p.s, .int .i64 p.t, .int .i64 p.v, .int .i64 p.c, .int .i64 p.st, .int .i64 p.q]
abbrev ptV (p : Pt) : Value := .agg #[.string p.s, .int .i64 p.t, .int .i64 p.v, .int .i64 p.c, .int .i64 p.st, .int .i64 p.q]
abbrev encP (l : List Pt) : List Value := l.flatMap ptC
def PtI (p : Pt) : Prop := I64 p.t ∧ I64 p.v ∧ I64 p.c ∧ I64 p.st ∧ I64 p.q
theorem rtime_calls (n : Int) (w : World) : Calls Try.prog 36 #[.int .i64 n] w fun e w' => e = .returned (.bool (decide (0 ≤ n ∧ n ≤ topN))) ∧ w = w' := by
  have hcs : (¬ 0 ≤ n ∧ decide (0 ≤ n ∧ n ≤ topN) = false) ∨ (0 ≤ n ∧ ¬ n ≤ 1099511627776 ∧ decide (0 ≤ n ∧ n ≤ topN) = false) ∨ (0 ≤ n ∧ n ≤ 1099511627776 ∧ decide (0 ≤ n ∧ n ≤ topN) = true) := by
    unfold topN; by_cases h1 : 0 ≤ n <;> by_cases h2 : n ≤ 1099511627776 <;> simp [h1, h2]
  rcases hcs with ⟨h1, hr⟩ | ⟨h1, h2, hr⟩ | ⟨h1, h2, hr⟩
  all_goals
    rw [hr]
    clear hr
    go_enter Try.func36, Try.ntmps36
    go_wp2_with fail
    go_ret
    exact ⟨rfl, rfl⟩
def chS (s : ByteArray) (i : Nat) : Int := ((s.data.toList.getD i 0).toNat : Int)
theorem chS_get {s : ByteArray} {i : Nat} (h : i < s.size) : ((s[i]).toNat : Int) = chS s i := by
  have h' : i < s.data.toList.length := by simpa using h
  unfold chS
  rw [List.getD, List.getElem?_eq_getElem h']
  rfl
def okS (x : Int) : Prop := (97 ≤ x ∧ x ≤ 122) ∨ (48 ≤ x ∧ x ≤ 57) ∨ x = 95 ∨ x = 46
def SerOk (s : ByteArray) : Prop := 1 ≤ s.size ∧ s.size ≤ 40 ∧ 97 ≤ chS s 0 ∧ chS s 0 ≤ 122 ∧ ∀ i, i < s.size → okS (chS s i)
instance (x : Int) : Decidable (okS x) := by unfold okS; exact inferInstance
instance (s : ByteArray) : Decidable (SerOk s) := by unfold SerOk; exact inferInstance
theorem ser_ne {s : ByteArray} (hz : ¬ s.size = 0) : s.toList.isEmpty = false := by
  rw [ByteArray.toList_eq]
  cases hl : s.data.toList with
  | nil => exact absurd (by have := congrArg List.length hl; simpa using this) hz
  | cons _ _ => rfl
theorem okS_cases (x : Int) : (¬ x < 97 ∧ 97 ≤ x ∧ ¬ 122 < x ∧ x ≤ 122 ∧ okS x) ∨ (x < 97 ∧ ¬ 97 ≤ x ∧ ¬ x < 48 ∧ 48 ≤ x ∧ ¬ 57 < x ∧ x ≤ 57 ∧ okS x) ∨ (x = 95 ∧ okS x) ∨ (x = 46 ∧ okS x) ∨ (x < 97 ∧ ¬ 97 ≤ x ∧ x < 48 ∧ ¬ 48 ≤ x ∧ (x == 95) = false ∧ (x == 46) = false ∧ (x != 95) = true ∧ (x != 46) = true ∧ ¬ okS x) ∨ (x < 97 ∧ ¬ 97 ≤ x ∧ ¬ x < 48 ∧ 48 ≤ x ∧ 57 < x ∧ ¬ x ≤ 57 ∧ (x == 95) = false ∧ (x == 46) = false ∧ (x != 95) = true ∧ (x != 46) = true ∧ ¬ okS x) ∨ (¬ x < 97 ∧ 97 ≤ x ∧ 122 < x ∧ ¬ x ≤ 122 ∧ ¬ x < 48 ∧ 48 ≤ x ∧ 57 < x ∧ ¬ x ≤ 57 ∧ (x == 95) = false ∧ (x == 46) = false ∧ (x != 95) = true ∧ (x != 46) = true ∧ ¬ okS x) := by
  unfold okS
  by_cases h1 : x = 95
  · subst h1; simp
  · by_cases h2 : x = 46
    · subst h2; simp
    · have e1 : (x == 95) = false := by simp [h1]
      have e2 : (x == 46) = false := by simp [h2]
      simp [e1, e2, bne]
      omega
set_option maxHeartbeats 4000000 in
theorem rname_calls (s : ByteArray) (w : World) : Calls Try.prog 35 #[.string s] w fun e w' => e = .returned (.bool (decide (SerOk s))) ∧ w = w' := by
  by_cases hz : s.size = 0
  · have hr : decide (SerOk s) = false := decide_eq_false (by unfold SerOk; omega)
    have hs : s = ⟨#[]⟩ := by
      obtain ⟨⟨l⟩⟩ := s
      have : l = [] := List.length_eq_zero_iff.1 hz
      subst this; rfl
    rw [hr]
    subst hs
    clear hr hz
    go_enter Try.func35, Try.ntmps35
    go_wp2_with fail
    go_ret
    exact ⟨rfl, rfl⟩
  have hpos : 0 < s.size := by omega
  have hne := ser_ne hz
  have e0 := chS_get hpos
  have Hn := Lib.hid (show SerOk s ↔ 1 ≤ s.size ∧ s.size ≤ 40 ∧ 97 ≤ chS s 0 ∧ chS s 0 ≤ 122 ∧ ∀ i, i < s.size → okS (chS s i) from Iff.rfl)
  obtain ⟨c0, hc0⟩ : ∃ c, chS s 0 = c := ⟨_, rfl⟩
  rw [hc0] at e0 Hn
  clear hc0
  have hs1 : ¬ ((s.size : Int) < 1) := by omega
  by_cases h40 : 40 < s.size
  · have hr : decide (SerOk s) = false := decide_eq_false (by rw [Hn.out]; omega)
    have g1 : (40 : Int) < s.size := by omega
    rw [hr]
    clear hr e0
    go_enter Try.func35, Try.ntmps35
    go_wp2_with fail
    go_ret
    exact ⟨rfl, rfl⟩
  have g1 : ¬ ((40 : Int) < s.size) := by omega
  by_cases h97 : c0 < 97
  · have hr : decide (SerOk s) = false := decide_eq_false (by rw [Hn.out]; omega)
    rw [hr]
    clear hr
    go_enter Try.func35, Try.ntmps35
    go_wp2_with fail
    go_ret
    exact ⟨rfl, rfl⟩
  by_cases h122 : 122 < c0
  · have hr : decide (SerOk s) = false := decide_eq_false (by rw [Hn.out]; omega)
    rw [hr]
    clear hr
    go_enter Try.func35, Try.ntmps35
    go_wp2_with fail
    go_ret
    exact ⟨rfl, rfl⟩
  have Hn2 := Lib.hid (show SerOk s ↔ ∀ i, i < s.size → okS (chS s i) by
    rw [Hn.out]; exact ⟨fun h => h.2.2.2.2, fun h => ⟨by omega, by omega, by omega, by omega, h⟩⟩)
  obtain ⟨r, hr⟩ : ∃ r, decide (SerOk s) = r := ⟨_, rfl⟩
  rw [hr]
  have Hr := Lib.hid hr
  clear hr
  go_enter Try.func35, Try.ntmps35
  go_wp2_with fail
  clear e0 h97 h122 hne
  go_loopw [3, 4] (fun i _ wr => ∃ k : Nat, k ≤ s.size ∧ i = .int .i64 k ∧ (∀ j, j < k → okS (chS s j)) ∧ w = wr) (fun i _ _ => s.size - (intOf i).toNat)
  case atStart => exact ⟨0, Nat.zero_le _, rfl, fun j hj => by omega, rfl⟩
  case round =>
    obtain ⟨k, hk, rfl, hok, rfl⟩ := hrel
    have Hok := Lib.hid hok
    clear hok
    by_cases hlt : k < s.size
    · have g2 : (k : Int) < s.size := by omega
      have g3 : (0 : Int) ≤ k := by omega
      have ek := chS_get hlt
      have hcs := okS_cases (chS s k)
      have Hc := Lib.hid (show ∀ x, chS s k = x → (okS x → ∀ j, j < k + 1 → okS (chS s j)) ∧ (¬ okS x → ¬ SerOk s) from fun x e => ⟨fun h j hj => by
        by_cases ej : j = k
        · subst ej; rw [e]; exact h
        · exact Hok.out j (by omega), fun h hn => by
          have := Hn2.out.1 hn k hlt
          rw [e] at this; exact h this⟩)
      obtain ⟨x, hx⟩ : ∃ c, chS s k = c := ⟨_, rfl⟩
      replace Hc := Lib.hid (Hc.out x hx)
      rw [hx] at ek hcs
      clear hx
      rcases hcs with ⟨k1, k2, k3, k4, ho⟩ | ⟨k1, k2, k3, k4, k5, k6, ho⟩ | ⟨rfl, ho⟩ | ⟨rfl, ho⟩ | ⟨k1, k2, k3, k4, k5, k6, k7, k8, ho⟩ | ⟨k1, k2, k3, k4, k5, k6, k7, k8, k9, kk, ho⟩ | ⟨k1, k2, k3, k4, k9, kk, kl, km, k5, k6, k7, k8, ho⟩
      all_goals
        have Ho := Lib.hid ho
        clear ho
        go_wp2_with fail
        first
          | (go_roundw
             case rel => exact ⟨k + 1, by omega, by go_num, Hc.out.1 Ho.out, trivial⟩
             case measure => simp [intOf]; omega)
          | (go_ret
             exact ⟨ret_b rfl (by rw [← Hr.out]; exact (decide_eq_false (Hc.out.2 Ho.out)).symm), rfl⟩)
    · obtain rfl : k = s.size := by omega
      go_wp2_with fail
      go_ret
      exact ⟨ret_b rfl (by rw [← Hr.out]; exact (decide_eq_true (Hn2.out.2 Hok.out)).symm), rfl⟩
def StampOk (c s q : Int) : Prop := 1 ≤ c ∧ c ≤ topN ∧ 1 ≤ q ∧ q ≤ topN ∧ 0 ≤ s ∧ s < 8
instance (c s q : Int) : Decidable (StampOk c s q) := by unfold StampOk; exact inferInstance
def errOf (ok : Bool) : Int := if ok then 0 else 1
set_option maxHeartbeats 1000000 in
theorem rcheck_calls (c s q : Int) (w : World) :
    Calls Try.prog 37 #[.agg #[.int .i64 c, .int .i64 s, .int .i64 q]] w fun e w' => e = .returned (.int .i64 (errOf (decide (StampOk c s q)))) ∧ Gr w w' := by
  have hcs : (c < 1 ∧ ¬ StampOk c s q) ∨ (¬ c < 1 ∧ 1099511627776 < c ∧ ¬ StampOk c s q) ∨ (¬ c < 1 ∧ ¬ 1099511627776 < c ∧ q < 1 ∧ ¬ StampOk c s q) ∨ (¬ c < 1 ∧ ¬ 1099511627776 < c ∧ ¬ q < 1 ∧ 1099511627776 < q ∧ ¬ StampOk c s q) ∨ (¬ c < 1 ∧ ¬ 1099511627776 < c ∧ ¬ q < 1 ∧ ¬ 1099511627776 < q ∧ s < 0 ∧ ¬ StampOk c s q) ∨ (¬ c < 1 ∧ ¬ 1099511627776 < c ∧ ¬ q < 1 ∧ ¬ 1099511627776 < q ∧ ¬ s < 0 ∧ 7 < s ∧ ¬ StampOk c s q) ∨ (¬ c < 1 ∧ ¬ 1099511627776 < c ∧ ¬ q < 1 ∧ ¬ 1099511627776 < q ∧ ¬ s < 0 ∧ ¬ 7 < s ∧ StampOk c s q) := by
    unfold StampOk topN; omega
  rcases hcs with ⟨h1, hs⟩ | ⟨h1, h2, hs⟩ | ⟨h1, h2, h3, hs⟩ | ⟨h1, h2, h3, h4, hs⟩ | ⟨h1, h2, h3, h4, h5, hs⟩ | ⟨h1, h2, h3, h4, h5, h6, hs⟩ | ⟨h1, h2, h3, h4, h5, h6, hs⟩
  all_goals
    have he : errOf (decide (StampOk c s q)) = errOf (decide (StampOk c s q)) := rfl
    (first | (rw [decide_eq_false hs] at he ⊢) | (rw [decide_eq_true hs] at he ⊢))
    clear he hs
    go_enter Try.func37, Try.ntmps37
    go_wp2_with fail
    go_ret
    exact ⟨rfl, by (repeat (first | exact Gr.rfl' | refine Gr.al ?_ _ | refine Gr.dr ?_ | refine Gr.drN ?_ | refine Gr.sc ?_ (by simp <;> omega) _ | refine Gr.tr ?_ (by assumption)))⟩
end Go.Proofs.Ytpnpnjfflblkpaa
