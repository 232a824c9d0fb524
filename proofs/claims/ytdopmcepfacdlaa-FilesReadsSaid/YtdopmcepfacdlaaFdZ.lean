/- FilesSwaps. -/
import Derived.Test.YtdopmcepfacdlaaFdY
namespace Go.Proofs.Ytdopmcepfacdlaa
open Go.RowKit Go.Maps

theorem short_calls (s : ByteArray) (n : Int) (hn : 0 ≤ n) (w : World) :
    Calls Try.prog 14 #[.string s, .int .i64 n] w fun e w' => ∃ s', e = .returned (.string s') ∧ (s'.size : Int) ≤ n ∧ w = w' := by
  by_cases h : n < s.size
  · go_enter Try.func14, Try.ntmps14
    go_wp2_with fail
    go_ret
    exact ⟨_, rfl, by simp; omega, rfl⟩
  · go_enter Try.func14, Try.ntmps14
    go_wp2_with fail
    go_ret
    exact ⟨_, rfl, by omega, rfl⟩
theorem look_fst {L : Dir} {s : ByteArray} {k : Nat} (h : L[0]? = some (s, k)) : look L s = some k := by
  cases L with
  | nil => cases h
  | cons x r => simp at h; subst h; unfold look; exact if_pos rfl
theorem look_snd {L : Dir} {s s0 : ByteArray} {k k0 : Nat} (h0 : L[0]? = some (s0, k0)) (hne : s0 ≠ s) (h : L[1]? = some (s, k)) : look L s = some k := by
  cases L with
  | nil => cases h
  | cons x r =>
    simp at h0; subst h0
    unfold look
    rw [if_neg hne]
    exact look_fst (by simpa using h)
abbrev sNow : ByteArray := ⟨#[110, 111, 119]⟩
abbrev sNext : ByteArray := ⟨#[110, 101, 120, 116]⟩
theorem okNow : NameOk sNow := by decide
theorem okNext : NameOk sNext := by decide
/-- The folder ahead of the crash. -/
def Sw (a b : ByteArray) (dir : Bool) (F : Fd) : Prop := ∃ m n, F.fl n = ⟨b, b.size⟩ ∧ ((dir = true ∧ FS F [(sNow, n)] [(sNow, n)] [] 100000) ∨ (dir = false ∧ F.fl m = ⟨a, a.size⟩ ∧ FS F [(sNow, n)] [(sNow, m)] [.cre sNext n, .ren sNext sNow] 100000))
theorem cut_of {F : Fd} {fl : Nat → Fl} {k n : Nat} {b : ByteArray} {p : Int} (h : F.fl n = ⟨b, b.size⟩) (e : fl k = cutFl (F.fl n) (pk p (((F.fl n).b.size : Int) - (F.fl n).sy))) : (fl k).b = b := by
  rw [e, cut_all (by rw [h]), h]
theorem Sw.crash {a b : ByteArray} {dir : Bool} {F : Fd} (h : Sw a b dir F) {ps : List Int} {L : Dir} {fl : Nat → Fl} (hc : Crashed F ps L fl) :
    getE (crashF F L fl) sNow = 0 ∧ (readB (crashF F L fl) sNow = b ∨ readB (crashF F L fl) sNow = a ∧ dir = false) := by
  have key : ∃ k, look L sNow = some k ∧ ((fl k).b = b ∨ (fl k).b = a ∧ dir = false) := by
    obtain ⟨m, n, hn, ⟨hd, hf⟩ | ⟨hd, hm, hf⟩⟩ := h
    · have hD : leftD F ps = [(sNow, n)] := by
        unfold leftD; rw [hf.firm, hf.since]; simp [runs]
      obtain ⟨k, e1, e2⟩ := crash_at hc hD 0 (by simp)
      exact ⟨k, look_fst e1, .inl (cut_of hn e2)⟩
    · have hp := pk_in (ps.headD 0) (n := 2) (by omega)
      have hM : manyF F ps = (pk (ps.headD 0) 2).toNat := by unfold manyF; rw [hf.since]; rfl
      have hq : manyF F ps = 0 ∨ manyF F ps = 1 ∨ manyF F ps = 2 := by omega
      rcases hq with hq | hq | hq
      · have hD : leftD F ps = [(sNow, m)] := by unfold leftD; rw [hf.firm, hf.since, hq]; rfl
        obtain ⟨k, e1, e2⟩ := crash_at hc hD 0 (by simp)
        exact ⟨k, look_fst e1, .inr ⟨cut_of hm e2, hd⟩⟩
      · have hD : leftD F ps = [(sNext, n), (sNow, m)] := by unfold leftD; rw [hf.firm, hf.since, hq]; rfl
        obtain ⟨k0, e0, _⟩ := crash_at hc hD 0 (by simp)
        obtain ⟨k, e1, e2⟩ := crash_at hc hD 1 (by simp)
        exact ⟨k, look_snd e0 (show sNext ≠ sNow by decide) e1, .inr ⟨cut_of hm e2, hd⟩⟩
      · have hD : leftD F ps = [(sNow, n)] := by unfold leftD; rw [hf.firm, hf.since, hq]; rfl
        obtain ⟨k, e1, e2⟩ := crash_at hc hD 0 (by simp)
        exact ⟨k, look_fst e1, .inl (cut_of hn e2)⟩
  obtain ⟨k, h1, h2⟩ := key
  have g := (FS.crash (F := F) (r := F.room) L fl rfl).read okNow h1
  exact ⟨g.1, by rw [g.2]; exact h2⟩
end Go.Proofs.Ytdopmcepfacdlaa
