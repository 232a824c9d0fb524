/- FilesArms. -/
import Derived.Test.YtdopmcepfacdlaaFdW
namespace Go.Proofs.Ytdopmcepfacdlaa
open Go.RowKit Go.Maps

/-- One file, a; so many steps are left, c of i calls worked. -/
structure Ar (want : Int) (m i : Nat) (c : Int) (F : Fd) : Prop where
  now : F.now = [(sA, m)]
  room : F.room = 1000
  armed : F.armed = true
  b : (F.fl m).b.size ≤ i
  st : 0 ≤ F.steps
  c0 : 0 ≤ c
  sum : c + F.steps = want
  off : F.on = false → F.steps = 0
  cnt : F.on = true → c = i
  cle : c ≤ i
  firm : F.firm = [] ∨ F.firm = [(sA, m)]
  since : F.since.length ≤ 1
/-- What one call more leaves. -/
def ArP (want : Int) (m i : Nat) (c : Int) (E : Int) (F' : Fd) : Prop := (E = 0 ∧ Ar want m (i + 1) (c + 1) F') ∨ (E = 14 ∧ F'.on = false ∧ Ar want m (i + 1) c F')
section
variable {want : Int} {m i : Nat} {c : Int} {F : Fd}
theorem Ar.rdy (h : Ar want m i c F) (hon : F.on = true) : getE F sA = 0 ∧ getV F sA = some m := by
  have hr : rdyE F.on [sA] = 0 := by rw [hon]; decide
  have hl : look F.now sA = some m := by rw [h.now]; rfl
  have e : getE F sA = 0 := by unfold getE; rw [if_neg (fun z => z hr), hl]; rfl
  exact ⟨e, by unfold getV; rw [if_pos e]; exact hl⟩
theorem Ar.off' (_ : Ar want m i c F) (hon : F.on = false) : getE F sA = 14 ∧ getV F sA = none := by
  have hr : rdyE F.on [sA] = 14 := by rw [hon]; decide
  have e : getE F sA = 14 := by unfold getE; rw [hr]; rfl
  exact ⟨e, by unfold getV; rw [if_neg (by rw [e]; decide)]⟩
/-- A call that has power: it takes a step, if there is one left; G: the folder behind it. -/
theorem Ar.turn (h : Ar want m i c F) (hon : F.on = true) {G : Fd} (g1 : G.now = F.now) (g2 : G.room = F.room) (g3 : G.armed = F.armed) (g4 : (G.fl m).b.size ≤ i + 1) (g5 : G.steps = (stepF F).steps) (g6 : G.on = (stepF F).on) (g7 : G.firm = F.firm ∨ G.firm = F.now) (g8 : G.since.length ≤ F.since.length) : ArP want m i c (stepE F) G := by
  have hc := h.cnt hon
  have hf : G.firm = [] ∨ G.firm = [(sA, m)] := by
    rcases g7 with e | e
    · rw [e]; exact h.firm
    · rw [e, h.now]; exact .inr rfl
  have hs := h.st; have h0 := h.c0; have hsum := h.sum; have hle := h.cle; have hsi := h.since
  by_cases hp : 0 < F.steps
  · have e1 : stepF F = { F with steps := F.steps - 1 } := by unfold stepF; rw [h.armed, if_neg (by decide), if_pos hp]
    have e2 : stepE F = 0 := by unfold stepE; rw [h.armed, if_neg (by decide), if_pos hp]
    rw [e1] at g5 g6
    have g5' : G.steps = F.steps - 1 := g5
    have g6' : G.on = F.on := g6
    exact .inl ⟨e2, g1.trans h.now, g2.trans h.room, g3.trans h.armed, g4, by omega, by omega, by omega, (fun z => by rw [g6', hon] at z; cases z), fun _ => by omega, by omega, hf, by omega⟩
  · have e1 : stepF F = { F with on := false } := by unfold stepF; rw [h.armed, if_neg (by decide), if_neg hp]
    have e2 : stepE F = 14 := by unfold stepE; rw [h.armed, if_neg (by decide), if_neg hp]
    rw [e1] at g5 g6
    have g5' : G.steps = F.steps := g5
    have g6' : G.on = false := g6
    exact .inr ⟨e2, g6', g1.trans h.now, g2.trans h.room, g3.trans h.armed, g4, by omega, by omega, by omega, fun _ => by omega, (fun z => by rw [g6'] at z; cases z), by omega, hf, by omega⟩
theorem Ar.stays (h : Ar want m i c F) (hon : F.on = false) : ArP want m i c 14 F := by
  have hb := h.b; have hle := h.cle
  exact .inr ⟨rfl, hon, h.now, h.room, h.armed, by omega, h.st, h.c0, h.sum, h.off, (fun z => by rw [hon] at z; cases z), by omega, h.firm, h.since⟩
theorem stepF_fl (F : Fd) : (stepF F).now = F.now ∧ (stepF F).room = F.room ∧ (stepF F).armed = F.armed ∧ (stepF F).fl = F.fl ∧ (stepF F).firm = F.firm ∧ (stepF F).since = F.since := by
  unfold stepF
  split
  · exact ⟨rfl, rfl, rfl, rfl, rfl, rfl⟩
  · split <;> exact ⟨rfl, rfl, rfl, rfl, rfl, rfl⟩
theorem Ar.app (h : Ar want m i c F) (hi : i < 50) : ArP want m i c (appE F sA sX) (appF F sA sX) := by
  cases hon : F.on with
  | false =>
    obtain ⟨e1, e2⟩ := h.off' hon
    have ea : appE F sA sX = 14 := by unfold appE; rw [if_neg (by rw [e1]; decide), e1]
    have ef : appF F sA sX = F := by unfold appF; rw [e2]
    rw [ea, ef]; exact h.stays hon
  | true =>
    obtain ⟨e1, e2⟩ := h.rdy hon
    have hb := h.b
    have hu : ¬ F.room < (usedF F : Int) + (sX.size : Nat) := by
      unfold usedF
      rw [h.now, sizes_one, h.room]
      show ¬ (1000 : Int) < _ + 1
      omega
    have ea : appE F sA sX = stepE F := by unfold appE; rw [if_pos e1, if_neg hu]
    obtain ⟨q1, q2, q3, q4, q5, q6⟩ := stepF_fl F
    rw [ea]
    have ef : appF F sA sX = { stepF F with fl := updF F.fl m ⟨(F.fl m).b ++ sX, (F.fl m).sy⟩ } := by unfold appF; rw [e2]; exact if_neg hu
    rw [ef]
    refine h.turn hon q1 q2 q3 ?_ rfl rfl (.inl q5) (by show (stepF F).since.length ≤ _; rw [q6]; exact Nat.le_refl _)
    show ((updF F.fl m ⟨(F.fl m).b ++ sX, (F.fl m).sy⟩) m).b.size ≤ i + 1
    rw [updF_same]
    show ((F.fl m).b ++ sX).size ≤ i + 1
    rw [ByteArray.size_append]
    show _ + 1 ≤ i + 1
    omega
theorem Ar.sync (h : Ar want m i c F) : ArP want m i c (syncE F sA) (syncF F sA) := by
  cases hon : F.on with
  | false =>
    obtain ⟨e1, e2⟩ := h.off' hon
    have ea : syncE F sA = 14 := by unfold syncE; rw [if_neg (by rw [e1]; decide), e1]
    have ef : syncF F sA = F := by unfold syncF; rw [e2]
    rw [ea, ef]; exact h.stays hon
  | true =>
    obtain ⟨e1, e2⟩ := h.rdy hon
    have hb := h.b
    have ea : syncE F sA = stepE F := by unfold syncE; rw [if_pos e1]
    obtain ⟨q1, q2, q3, q4, q5, q6⟩ := stepF_fl F
    rw [ea]
    have ef : syncF F sA = if stepE F = 0 then { stepF F with fl := updF F.fl m ⟨(F.fl m).b, (F.fl m).b.size⟩ } else stepF F := by unfold syncF; rw [e2]
    rw [ef]
    by_cases hs : stepE F = 0
    · rw [if_pos hs]
      refine h.turn hon q1 q2 q3 ?_ rfl rfl (.inl q5) (by show (stepF F).since.length ≤ _; rw [q6]; exact Nat.le_refl _)
      show ((updF F.fl m ⟨(F.fl m).b, (F.fl m).b.size⟩) m).b.size ≤ i + 1
      rw [updF_same]
      show (F.fl m).b.size ≤ i + 1
      omega
    · rw [if_neg hs]
      exact h.turn hon q1 q2 q3 (by rw [q4]; omega) rfl rfl (.inl q5) (by rw [q6]; exact Nat.le_refl _)
theorem Ar.sdir (h : Ar want m i c F) : ArP want m i c (sdirE F) (sdirF F) := by
  cases hon : F.on with
  | false =>
    have hr : rdyE F.on [] = 14 := by rw [hon]; decide
    have ea : sdirE F = 14 := by unfold sdirE; rw [if_neg (by rw [hr]; decide), hr]
    have ef : sdirF F = F := by unfold sdirF; rw [if_neg (by rw [hr]; decide)]
    rw [ea, ef]; exact h.stays hon
  | true =>
    have hr : rdyE F.on [] = 0 := by rw [hon]; decide
    have hb := h.b
    have ea : sdirE F = stepE F := by unfold sdirE; rw [if_pos hr]
    obtain ⟨q1, q2, q3, q4, q5, q6⟩ := stepF_fl F
    rw [ea]
    unfold sdirF
    rw [if_pos hr]
    by_cases hs : stepE F = 0
    · rw [if_pos hs]
      exact h.turn hon q1 q2 q3 (by show ((stepF F).fl m).b.size ≤ _; rw [q4]; omega) rfl rfl (.inr (by first | rfl | exact q1)) (Nat.zero_le _)
    · rw [if_neg hs]
      exact h.turn hon q1 q2 q3 (by rw [q4]; omega) rfl rfl (.inl q5) (by rw [q6]; exact Nat.le_refl _)
/-- Behind all of them: the power is gone, if it was armed for fewer. -/
theorem Ar.done (h : Ar want m 50 c F) (hw : want ≤ 40) : c = want := by
  have hs := h.sum; have ht := h.st
  cases hon : F.on with
  | false => have := h.off hon; omega
  | true => have := h.cnt hon; omega
theorem Ar.start (k : Int) {F : Fd} (hf : F.Free) (h1 : F.now = [(sA, m)]) (h2 : F.room = 1000) (h3 : (F.fl m).b.size = 0) (h4 : F.firm = []) (h5 : F.since.length ≤ 1) : Ar (mx k 0) m 0 0 { F with armed := true, steps := mx k 0 } := by
  have hk : 0 ≤ mx k 0 := by unfold mx; split <;> omega
  exact ⟨h1, h2, rfl, by show (F.fl m).b.size ≤ 0; omega, hk, by omega, by show 0 + mx k 0 = _; omega, (fun z => by have : F.on = false := z; rw [hf.on] at this; cases this), fun _ => rfl, by omega, .inl h4, h5⟩
/-- Behind the crash b is not there. -/
theorem Ar.crash (h : Ar want m i c F) {L : Dir} {fl : Nat → Fl} (hc : Crashed F [] L fl) : okC (crashF F L fl) sB ∧ createE (crashF F L fl) sB = 0 := by
  have hfr : (crashF F L fl).Free := crashF_free L fl
  have hl : L = [] ∨ ∃ k, L = [(sA, k)] := by
    rcases h.firm with e | e
    · exact .inl (crash_none hc ((left_nil F).trans e))
    · obtain ⟨k, ek, _⟩ := crash_one hc ((left_nil F).trans e)
      exact .inr ⟨k, ek⟩
  have hk : okC (crashF F L fl) sB := by
    rcases hl with rfl | ⟨k, rfl⟩
    · exact hfr.okc okB rfl (show (0 : Nat) < 64 from by decide)
    · refine hfr.okc okB ?_ (show (1 : Nat) < 64 from by decide)
      show (if sA = sB then some k else none) = none
      rw [if_neg (by decide)]
  exact ⟨hk, hfr.createE hk⟩
end
theorem new_one (n r : Int) (m : Nat) (hn : roomF n = r) : (createF (newF n) sA m).Free ∧ (createF (newF n) sA m).now = [(sA, m)] ∧ (createF (newF n) sA m).room = r ∧ ((createF (newF n) sA m).fl m) = ⟨⟨#[]⟩, 0⟩ ∧ (createF (newF n) sA m).firm = [] ∧ (createF (newF n) sA m).since = [.cre sA m] := by
  rw [(newF_free n).createF]
  exact ⟨⟨rfl, rfl⟩, rfl, hn, updF_same _ _ _, rfl, rfl⟩
set_option maxRecDepth 100000 in
set_option maxHeartbeats 4000000 in
theorem arms_law (steps : Int) (w : World) : Calls Try.prog 5 #[.int .i64 steps] w fun e w' => e = .returned (.bool true) ∧ Gr w w' := by
  have hm1 : -42 ≤ steps.tmod 43 ∧ steps.tmod 43 ≤ 42 := by
    have h1 := Int.tmod_lt_of_pos steps (b := 43) (by omega)
    have h2 := Int.lt_tmod_of_pos steps (b := 43) (by omega)
    omega
  obtain ⟨m, hm⟩ : ∃ m, steps.tmod 43 = m := ⟨_, rfl⟩
  rw [hm] at hm1
  go_enter Try.func5, Try.ntmps5
  go_wp2_with fail
  refine (awake_calls _).mono ?_
  rintro e w1 ⟨rfl, hg1⟩
  have G1 := Lib.hid hg1
  clear hg1
  go_upto_if 14 with (fail)
  go_cut [4] (fun v wx => ∃ k : Int, 0 ≤ k ∧ k ≤ 42 ∧ v = .int .i64 k ∧ w1 = wx)
  case first =>
    by_cases hneg : m < 0
    · have hw : IntKind.i64.wrap (-m) = -m := by simp [IntKind.wrap, IntKind.bits, IntKind.signed]; omega
      go_wp2_with fail
      all_goals (go_meet; exact ⟨-m, by omega, by omega, rfl, rfl⟩)
    · go_wp2_with fail
      all_goals (go_meet; exact ⟨m, by omega, by omega, rfl, rfl⟩)
  case rest =>
    obtain ⟨k, hk0, hk1, rfl, rfl⟩ := hcut
    clear hm1 hm m
    have hw2 : IntKind.i64.wrap (k - 2) = k - 2 := by simp [IntKind.wrap, IntKind.bits, IntKind.signed]; omega
    go_wp2_with fail
    obtain ⟨n, hn⟩ : ∃ n, k - 2 = n := ⟨_, rfl⟩
    have hn2 : -2 ≤ n ∧ n ≤ 40 := by omega
    rw [hn]
    clear hw2 hn hk0 hk1
    refine (wnew 1000 _).mono ?_
    rintro e w2 ⟨p, rfl, hw, hg⟩
    have H0 := Lib.hid (One.new hw hg G1.out)
    clear hw hg G1
    go_wp2_with fail
    refine (H0.out.create (Nat.zero_le _) sA (by decide)).mono ?_
    rintro e w3 ⟨rfl, h3⟩
    have hk : okC (newF 1000) sA := (newF_free 1000).okc okA rfl (show (0 : Nat) < 64 from by decide)
    rcases h3 with ⟨_, m, _, h3⟩ | ⟨hno, _⟩
    rotate_left
    · exact absurd hk hno
    obtain ⟨f1, f2, f3, f4, f5, f6⟩ := new_one 1000 m (r := 1000) (by decide)
    have H3 := Lib.hid h3
    have A3 := Lib.hid (Ar.start n f1 f2 f3 (by rw [f4]; rfl) f5 (by rw [f6]; exact Nat.le_refl _))
    clear h3 hk H0 f1 f2 f3 f4 f5 f6
    generalize createF (newF 1000) sA m = Fa at *
    go_wp2_with fail
    refine (H3.out.arm (by unfold I64; omega)).mono ?_
    rintro e w4 ⟨rfl, h4⟩
    have H4 := Lib.hid h4
    clear h4 H3
    generalize ({ Fa with armed := true, steps := mx n 0 } : Fd) = Fb at *
    go_wp2_with fail
    go_loopw [6, 7] (fun wv iv wr => ∃ (i : Nat) (c : Int) (F : Fd), i ≤ 50 ∧ iv = .int .i64 i ∧ wv = .int .i64 c ∧ Hid (One w wr p F) ∧ Hid (Ar (mx n 0) m i c F)) (fun _ iv _ => 50 - (intOf iv).toNat)
    case atStart => exact ⟨0, 0, Fb, Nat.zero_le _, rfl, rfl, H4, A3⟩
    case round =>
      obtain ⟨i, c, F, hi, rfl, rfl, HF, HA⟩ := hrel
      by_cases hlt : i < 50
      · have hlt' : (i : Int) < 50 := by omega
        have htm : (i : Int).tmod 3 = ((i % 3 : Nat) : Int) := by rw [Int.tmod_eq_emod_of_nonneg (by omega)]; rfl
        have hcc : 0 ≤ c ∧ c ≤ i := ⟨HA.out.c0, HA.out.cle⟩
        have hsl : F.since.length ≤ 1000 := by have := HA.out.since; omega
        have hw1 : IntKind.i64.wrap (c + 1) = c + 1 := by simp [IntKind.wrap, IntKind.bits, IntKind.signed]; omega
        have h3 : i % 3 = 0 ∨ i % 3 = 1 ∨ i % 3 = 2 := by omega
        clear hi hlt
        rcases h3 with h3 | h3 | h3
        · rw [h3] at htm
          have ht : (i : Int).tmod 3 = 0 := htm
          clear htm h3
          go_wp2_with fail
          refine (HF.out.append sA sX (by decide) (by decide)).mono ?_
          rintro e w5 ⟨rfl, h5⟩
          have ha := HA.out.app (by omega)
          generalize appE F sA sX = E at *
          generalize appF F sA sX = G at *
          have H5 := Lib.hid h5
          clear h5
          rcases ha with ⟨rfl, ha⟩ | ⟨rfl, hoff, ha⟩
          · have HA5 := Lib.hid ha
            clear ha
            go_wp2_with fail
            go_roundw
            case rel => exact ⟨i + 1, c + 1, G, by omega, by go_num, rfl, H5, HA5⟩
            case measure => simp [intOf]; omega
          · have HA5 := Lib.hid ha
            clear ha hw1
            go_wp2_with (go_at_call 21; refine H5.out.on.mono ?_; rintro e w6 ⟨rfl, rfl⟩; rw [hoff])
            go_roundw
            case rel => exact ⟨i + 1, c, G, by omega, by go_num, rfl, H5, HA5⟩
            case measure => simp [intOf]; omega
        · rw [h3] at htm
          have ht : (i : Int).tmod 3 = 1 := htm
          clear htm h3
          go_wp2_with fail
          refine (HF.out.sync sA (by decide)).mono ?_
          rintro e w5 ⟨rfl, h5⟩
          have ha := HA.out.sync
          generalize syncE F sA = E at *
          generalize syncF F sA = G at *
          have H5 := Lib.hid h5
          clear h5
          rcases ha with ⟨rfl, ha⟩ | ⟨rfl, hoff, ha⟩
          · have HA5 := Lib.hid ha
            clear ha
            go_wp2_with fail
            go_roundw
            case rel => exact ⟨i + 1, c + 1, G, by omega, by go_num, rfl, H5, HA5⟩
            case measure => simp [intOf]; omega
          · have HA5 := Lib.hid ha
            clear ha hw1
            go_wp2_with (go_at_call 21; refine H5.out.on.mono ?_; rintro e w6 ⟨rfl, rfl⟩; rw [hoff])
            go_roundw
            case rel => exact ⟨i + 1, c, G, by omega, by go_num, rfl, H5, HA5⟩
            case measure => simp [intOf]; omega
        · rw [h3] at htm
          have ht : (i : Int).tmod 3 = 2 := htm
          clear htm h3
          go_wp2_with fail
          refine (HF.out.sdir).mono ?_
          rintro e w5 ⟨rfl, h5⟩
          have ha := HA.out.sdir
          generalize sdirE F = E at *
          generalize sdirF F = G at *
          have H5 := Lib.hid h5
          clear h5
          rcases ha with ⟨rfl, ha⟩ | ⟨rfl, hoff, ha⟩
          · have HA5 := Lib.hid ha
            clear ha
            go_wp2_with fail
            go_roundw
            case rel => exact ⟨i + 1, c + 1, G, by omega, by go_num, rfl, H5, HA5⟩
            case measure => simp [intOf]; omega
          · have HA5 := Lib.hid ha
            clear ha hw1
            go_wp2_with (go_at_call 21; refine H5.out.on.mono ?_; rintro e w6 ⟨rfl, rfl⟩; rw [hoff])
            go_roundw
            case rel => exact ⟨i + 1, c, G, by omega, by go_num, rfl, H5, HA5⟩
            case measure => simp [intOf]; omega
      · have hge : ¬ (i : Int) < 50 := by omega
        obtain rfl : i = 50 := by omega
        have hc := HA.out.done (by unfold mx; split <;> omega)
        subst hc
        have HC := Lib.hid (fun L fl (hc : Crashed F [] L fl) => HA.out.crash hc)
        have hsl : F.since.length ≤ 1000 := by have := HA.out.since; omega
        have HS := Lib.hid hsl
        clear hsl HA
        obtain ⟨want, hwant⟩ : ∃ z, mx n 0 = z := ⟨_, rfl⟩
        rw [hwant]
        have hcs : (n < 0 → want = 0) ∧ (¬ n < 0 → want = n) := by
          rw [← hwant]; unfold mx
          constructor <;> intro h <;> (split <;> omega)
        clear hwant
        by_cases hneg : n < 0
        · have hw0 := hcs.1 hneg
          subst hw0
          clear hcs
          go_wp2_with fail
          refine (HF.out.crash HS.out (.slice none 0 0) [] (rdI_none _) (fun x hx => by cases hx) (by decide)).mono ?_
          rintro e w7 ⟨rfl, L, fl, hc, h7⟩
          obtain ⟨hok, hcr⟩ := HC.out L fl hc
          have hon : (crashF F L fl).on = true := rfl
          have hsc : (crashF F L fl).since.length ≤ 1000 := Nat.zero_le _
          have H7 := Lib.hid h7; have HK := Lib.hid (And.intro hok (And.intro hcr (And.intro hon hsc)))
          clear h7 hok hcr hc HC HS HF hon hsc
          generalize crashF F L fl = Fz at *
          go_wp2_with (go_at_call 21; refine H7.out.on.mono ?_; rintro e w8 ⟨rfl, rfl⟩; rw [HK.out.2.2.1])
          refine (H7.out.create HK.out.2.2.2 sB (by decide)).mono ?_
          rintro e w9 ⟨rfl, h9⟩
          rw [HK.out.2.1]
          have G9 : Hid (Gr w w9) := by
            rcases h9 with ⟨_, _, _, h9⟩ | ⟨_, h9⟩
            · exact Lib.hid h9.gr
            · exact Lib.hid h9.gr
          clear h9
          go_wp2_with fail
          go_ret
          exact ⟨rfl, G9.out⟩
        · have hw0 := hcs.2 hneg
          subst hw0
          clear hcs
          go_wp2_with fail
          refine (HF.out.crash HS.out (.slice none 0 0) [] (rdI_none _) (fun x hx => by cases hx) (by decide)).mono ?_
          rintro e w7 ⟨rfl, L, fl, hc, h7⟩
          obtain ⟨hok, hcr⟩ := HC.out L fl hc
          have hon : (crashF F L fl).on = true := rfl
          have hsc : (crashF F L fl).since.length ≤ 1000 := Nat.zero_le _
          have H7 := Lib.hid h7; have HK := Lib.hid (And.intro hok (And.intro hcr (And.intro hon hsc)))
          clear h7 hok hcr hc HC HS HF hon hsc
          generalize crashF F L fl = Fz at *
          go_wp2_with (go_at_call 21; refine H7.out.on.mono ?_; rintro e w8 ⟨rfl, rfl⟩; rw [HK.out.2.2.1])
          refine (H7.out.create HK.out.2.2.2 sB (by decide)).mono ?_
          rintro e w9 ⟨rfl, h9⟩
          rw [HK.out.2.1]
          have G9 : Hid (Gr w w9) := by
            rcases h9 with ⟨_, _, _, h9⟩ | ⟨_, h9⟩
            · exact Lib.hid h9.gr
            · exact Lib.hid h9.gr
          clear h9
          go_wp2_with fail
          go_ret
          exact ⟨rfl, G9.out⟩
end Go.Proofs.Ytdopmcepfacdlaa
