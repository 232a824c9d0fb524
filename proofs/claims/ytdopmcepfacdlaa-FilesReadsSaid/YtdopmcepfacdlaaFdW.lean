/- One folder alone; FilesNil: the walk. -/
import Derived.Test.YtdopmcepfacdlaaFdV
namespace Go.Proofs.Ytdopmcepfacdlaa
open Go.RowKit Go.Maps

def One (w0 w : World) (p : Nat) (F : Fd) : Prop := ∃ X, Well X w p F ∧ Gr w0 w ∧ ∀ k, X k → w0.heap.size ≤ k
section
variable {w0 w w' : World} {p : Nat} {F F' : Fd} {X : Nat → Prop}
theorem One.gr (h : One w0 w p F) : Gr w0 w := by obtain ⟨X, _, h, _⟩ := h; exact h
theorem One.ok (h : One w0 w p F) : F.Ok := by obtain ⟨X, h, _⟩ := h; exact h.ok
theorem One.grow (h : One w0 w p F) (hg : Gr w w') : One w0 w' p F := by
  obtain ⟨X, h1, h2, h3⟩ := h
  exact ⟨X, h1.gr hg, h2.tr hg, h3⟩
theorem One.turn (hg : Gr w0 w) (hn : ∀ k, X k → w0.heap.size ≤ k) (hw : Well (Aft X w w') w' p F') (hb : Bt X w w') : One w0 w' p F' :=
  ⟨_, hw, hb.gr hg hn, fun k hk => hk.elim (hn k) (fun z => Nat.le_trans hg.size z.1)⟩
theorem One.new {n : Int} (hw : Well (Aft (fun _ => False) w w') w' p (newF n)) (hg : Gr w w') (h0 : Gr w0 w) : One w0 w' p (newF n) :=
  ⟨_, hw, h0.tr hg, fun _ hk => hk.elim (fun z => z.elim) (fun z => Nat.le_trans h0.size z.1)⟩
theorem One.create (h : One w0 w p F) (hsl : F.since.length ≤ 1000) (s : ByteArray) (hm : s.size ≤ maxLen) :
    Calls Try.prog 12 #[.pointer (some ⟨p, 0, none⟩), .string s] w fun e w' => e = .returned (.int .i64 (createE F s)) ∧ ((okC F s ∧ ∃ n, ¬ F.has n ∧ One w0 w' p (createF F s n)) ∨ (¬ okC F s ∧ One w0 w' p F)) := by
  obtain ⟨X, h1, h2, h3⟩ := h
  refine (wcreate X w p F h1 hsl s hm).mono ?_
  rintro e w' (⟨hk, n, hn, he, hw, hb⟩ | ⟨hno, he, hw, hb⟩)
  · exact ⟨he, .inl ⟨hk, n, hn, One.turn h2 h3 hw hb⟩⟩
  · exact ⟨he, .inr ⟨hno, One.turn h2 h3 hw hb⟩⟩
theorem One.append (h : One w0 w p F) (s t : ByteArray) (hm : s.size ≤ maxLen) (ht : t.size ≤ 1000000) :
    Calls Try.prog 15 #[.pointer (some ⟨p, 0, none⟩), .string s, .string t] w fun e w' => e = .returned (.int .i64 (appE F s t)) ∧ One w0 w' p (appF F s t) := by
  obtain ⟨X, h1, h2, h3⟩ := h
  exact (wappend X w p F h1 s t hm ht).mono fun e w' ⟨he, hw, hb⟩ => ⟨he, One.turn h2 h3 hw hb⟩
theorem One.sync (h : One w0 w p F) (s : ByteArray) (hm : s.size ≤ maxLen) :
    Calls Try.prog 16 #[.pointer (some ⟨p, 0, none⟩), .string s] w fun e w' => e = .returned (.int .i64 (syncE F s)) ∧ One w0 w' p (syncF F s) := by
  obtain ⟨X, h1, h2, h3⟩ := h
  exact (wsync X w p F h1 s hm).mono fun e w' ⟨he, hw, hb⟩ => ⟨he, One.turn h2 h3 hw hb⟩
theorem One.delete (h : One w0 w p F) (hsl : F.since.length ≤ 1000) (s : ByteArray) (hm : s.size ≤ maxLen) :
    Calls Try.prog 23 #[.pointer (some ⟨p, 0, none⟩), .string s] w fun e w' => e = .returned (.int .i64 (deleteE F s)) ∧ One w0 w' p (deleteF F s) := by
  obtain ⟨X, h1, h2, h3⟩ := h
  exact (wdelete X w p F h1 hsl s hm).mono fun e w' ⟨he, hw, hb⟩ => ⟨he, One.turn h2 h3 hw hb⟩
theorem One.rename (h : One w0 w p F) (hsl : F.since.length ≤ 1000) (s t : ByteArray) (hm : s.size ≤ maxLen) (hmt : t.size ≤ maxLen) :
    Calls Try.prog 22 #[.pointer (some ⟨p, 0, none⟩), .string s, .string t] w fun e w' => e = .returned (.int .i64 (renameE F s t)) ∧ One w0 w' p (renameF F s t) := by
  obtain ⟨X, h1, h2, h3⟩ := h
  exact (wrename X w p F h1 hsl s t hm hmt).mono fun e w' ⟨he, hw, hb⟩ => ⟨he, One.turn h2 h3 hw hb⟩
theorem One.sdir (h : One w0 w p F) :
    Calls Try.prog 13 #[.pointer (some ⟨p, 0, none⟩)] w fun e w' => e = .returned (.int .i64 (sdirE F)) ∧ One w0 w' p (sdirF F) := by
  obtain ⟨X, h1, h2, h3⟩ := h
  exact (wsdir X w p F h1).mono fun e w' ⟨he, hw, hb⟩ => ⟨he, One.turn h2 h3 hw hb⟩
theorem One.crash (h : One w0 w p F) (hsl : F.since.length ≤ 1000) (v : Value) (ps : List Int) (hv : rdRow w 1 v ps.length (encI ps)) (hps : ∀ x ∈ ps, I64 x) (hpl : ps.length ≤ maxLen) :
    Calls Try.prog 17 #[.pointer (some ⟨p, 0, none⟩), v] w fun e w' => e = .returned (.tuple #[]) ∧ ∃ L fl, Crashed F ps L fl ∧ One w0 w' p (crashF F L fl) := by
  obtain ⟨X, h1, h2, h3⟩ := h
  exact (wcrash X w p F h1 hsl v ps hv hps hpl).mono fun e w' ⟨he, L, fl, hc, hw, hb⟩ => ⟨he, L, fl, hc, One.turn h2 h3 hw hb⟩
theorem One.read (h : One w0 w p F) (s : ByteArray) (hm : s.size ≤ maxLen) :
    Calls Try.prog 18 #[.pointer (some ⟨p, 0, none⟩), .string s] w fun e w' => e = .returned (.tuple #[.string (readB F s), .int .i64 (getE F s)]) ∧ One w0 w' p F := by
  have h0 := h
  obtain ⟨X, h1, h2, h3⟩ := h
  exact (read_calls X w p F h1.ly s hm).mono fun e w' ⟨he, hg⟩ => ⟨he, h0.grow hg⟩
theorem One.on (h : One w0 w p F) : Calls Try.prog 21 #[.pointer (some ⟨p, 0, none⟩)] w fun e w' => e = .returned (.bool F.on) ∧ w = w' := by
  obtain ⟨X, h1, h2, h3⟩ := h
  exact on_calls X w p F h1.ly
theorem One.used (h : One w0 w p F) (hup : F.up = true) : Calls Try.prog 19 #[.pointer (some ⟨p, 0, none⟩)] w fun e w' => e = .returned (.int .i64 (usedF F)) ∧ One w0 w' p F := by
  have h0 := h
  obtain ⟨X, h1, h2, h3⟩ := h
  exact (used_calls X w p F h1.ly hup h1.ok.nlen h1.ok.nsz).mono fun e w' ⟨he, hg⟩ => ⟨he, h0.grow hg⟩
theorem One.arm (h : One w0 w p F) {n : Int} (hn : I64 n) : Calls Try.prog 20 #[.pointer (some ⟨p, 0, none⟩), .int .i64 n] w fun e w' => e = .returned (.tuple #[]) ∧ One w0 w' p { F with armed := true, steps := mx n 0 } := by
  obtain ⟨X, h1, h2, h3⟩ := h
  exact (arm_calls X w p F h1.ly n).mono fun e w' ⟨he, hf, hb⟩ => ⟨he, X, ⟨hf, h1.ok.arm hn⟩, hb.gr h2 h3, h3⟩
end
theorem zero_one (w0 w : World) (hg : Gr w0 w) : One w0 (w.alloc (.cells (fdC zeroF none none (.slice none 0 0)) 64)) w.heap.size zeroF :=
  ⟨_, ⟨zero_at w, zeroF_ok⟩, Gr.al hg _, fun _ hk => hk.elim (fun z => z.elim) (fun z => Nat.le_trans hg.size z.1)⟩
abbrev sX : ByteArray := ⟨#[120]⟩
theorem rdI_none (w : World) : rdRow w 1 (.slice none 0 0) ([] : List Int).length (encI []) := ⟨rfl, none, 0, rfl, Nat.le_refl _, fun h => absurd h (by decide)⟩
set_option maxRecDepth 100000 in
set_option maxHeartbeats 4000000 in
theorem nil_law (s : ByteArray) (w : World) : Calls Try.prog 9 #[.string s] w fun e w' => e = .returned (.bool true) ∧ Gr w w' := by
  go_enter Try.func9, Try.ntmps9
  go_wp2_with fail
  have hz := zero_one w w Gr.rfl'
  unfold fdC zeroF at hz
  have hz2 : One w (w.alloc (.cells #[.map none, .map none, .slice none 0 0, .int .i64 0, .bool false, .bool false, .int .i64 0] 64)) w.heap.size zeroF := hz
  have HZ := Lib.hid hz2
  clear hz hz2
  generalize w.alloc (.cells #[.map none, .map none, .slice none 0 0, .int .i64 0, .bool false, .bool false, .int .i64 0] 64) = w1 at *
  obtain ⟨p, hp⟩ : ∃ p, w.heap.size = p := ⟨_, rfl⟩
  rw [hp] at HZ ⊢
  go_wp2_with (first | (go_at_call 20; refine (arm_nil _ _).mono ?_; rintro e w' ⟨rfl, rfl⟩) | (go_at_call 33; refine (limit_nil _ _).mono ?_; rintro e w' ⟨rfl, rfl⟩))
  refine (crash_nil _ _ _ _).mono ?_
  rintro e wc ⟨rfl, gc⟩
  have hc := HZ.out.grow ((Gr.al Gr.rfl' _).tr gc)
  have HC := Lib.hid hc
  clear hc gc HZ
  go_wp2_with fail
  refine (read_nil _ _).mono ?_
  rintro e wr ⟨rfl, gr⟩
  have hr := HC.out.grow gr
  have HR := Lib.hid hr
  clear hr gr HC
  go_wp2_with fail
  refine (HR.out.create (by decide) sA (by decide)).mono ?_
  rintro e w2 ⟨rfl, h2⟩
  have hno : ¬ okC zeroF sA := fun z => absurd z.1 (by decide)
  have h2' : One w w2 p zeroF := h2.elim (fun z => absurd z.1 hno) And.right
  rw [show createE zeroF sA = 14 from by decide]
  have H2 := Lib.hid h2'
  clear h2 h2' hno HR
  go_wp2_with fail
  refine (H2.out.crash (by decide) (.slice none 0 0) [] (rdI_none _) (fun x hx => by cases hx) (by decide)).mono ?_
  rintro e w3 ⟨rfl, L, fl, hc, h3⟩
  have hL : L = [] := crash_none hc (left_nil _)
  subst hL
  have H3 := Lib.hid h3
  clear h3 hc H2
  go_wp2_with fail
  refine (H3.out.create (Nat.zero_le _) sA (by decide)).mono ?_
  rintro e w4 ⟨rfl, h4⟩
  have hk : okC (crashF zeroF [] fl) sA := (crashF_free [] fl).okc okA rfl (show (0 : Nat) < 64 from by decide)
  rw [(crashF_free [] fl).createE hk]
  rcases h4 with ⟨_, n, _, h4⟩ | ⟨hno, _⟩
  rotate_left
  · exact absurd hk hno
  have happ : appE (createF (crashF zeroF [] fl) sA n) sA sX = 15 := by
    rw [(crashF_free [] fl).createF]
    have hfr : ({ crashF zeroF [] fl with now := insD (crashF zeroF [] fl).now sA n, since := (crashF zeroF [] fl).since ++ [.cre sA n], fl := updF (crashF zeroF [] fl).fl n ⟨⟨#[]⟩, 0⟩ } : Fd).Free := ⟨rfl, rfl⟩
    unfold appE
    rw [if_pos (hfr.get okA (n := n) rfl).1, if_pos ?_]
    unfold usedF
    show (0 : Int) < ((sizes (updF fl n ⟨⟨#[]⟩, 0⟩) [(sA, n)] : Nat) : Int) + 1
    omega
  have H4 := Lib.hid h4; have HA := Lib.hid happ
  clear h4 happ hk H3
  generalize createF (crashF zeroF [] fl) sA n = Fz at *
  go_wp2_with fail
  refine (awake_calls _).mono ?_
  rintro e n0 ⟨rfl, gk⟩
  have m := H4.out.grow gk
  have M0 := Lib.hid m
  clear m gk H4
  go_wp2_with fail
  refine (create_nil _ _).mono ?_
  rintro e n1 ⟨rfl, gk⟩
  have m := M0.out.grow gk
  have M1 := Lib.hid m
  clear m gk M0
  go_wp2_with fail
  refine (append_nil _ _ _).mono ?_
  rintro e n2 ⟨rfl, gk⟩
  have m := M1.out.grow gk
  have M2 := Lib.hid m
  clear m gk M1
  go_wp2_with fail
  refine (sync_nil _ _).mono ?_
  rintro e n3 ⟨rfl, gk⟩
  have m := M2.out.grow gk
  have M3 := Lib.hid m
  clear m gk M2
  go_wp2_with fail
  refine (delete_nil _ _).mono ?_
  rintro e n4 ⟨rfl, gk⟩
  have m := M3.out.grow gk
  have M4 := Lib.hid m
  clear m gk M3
  go_wp2_with fail
  refine (rename_nil _ _ _).mono ?_
  rintro e n5 ⟨rfl, gk⟩
  have m := M4.out.grow gk
  have M5 := Lib.hid m
  clear m gk M4
  go_wp2_with fail
  refine (sdir_nil _).mono ?_
  rintro e n6 ⟨rfl, gk⟩
  have m := M5.out.grow gk
  have M6 := Lib.hid m
  clear m gk M5
  go_wp2_with (first | (go_at_call 24; refine (names_nil _).mono ?_; rintro e w' ⟨rfl, rfl⟩) | (go_at_call 19; refine (used_nil _).mono ?_; rintro e w' ⟨rfl, rfl⟩) | (go_at_call 21; refine (on_nil _).mono ?_; rintro e w' ⟨rfl, rfl⟩))
  refine (M6.out.append sA sX (by decide) (by decide)).mono ?_
  rintro e w9 ⟨rfl, h9⟩
  rw [HA.out]
  have G9 := Lib.hid h9.gr
  clear h9
  go_wp2_with fail
  go_ret
  exact ⟨rfl, G9.out⟩
end Go.Proofs.Ytdopmcepfacdlaa
