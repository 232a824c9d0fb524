/- Package files: the nil folder, the zero one; the calls over folders that are well. -/
import Derived.Test.YtdopmcepfacdlaaFdR
import Derived.Test.YtdopmcepfacdlaaFdS
namespace Go.Proofs.Ytdopmcepfacdlaa
open Go.RowKit Go.Maps
attribute [local go_sem] max2_mx min2_mn max_two' min_two'

theorem create_nil (s : ByteArray) (w : World) : Calls Try.prog 12 #[.pointer none, .string s] w fun e w' => e = .returned (.int .i64 1) ∧ Gr w w' := by
  go_enter Try.func12, Try.ntmps12
  go_wp2_with fail
  obtain ⟨W1, e1, g1, b1, s1⟩ := al_out w (.cells #[.string s] 9)
  rw [e1]
  obtain ⟨A3, eA⟩ : ∃ A, w.heap.size = A := ⟨_, rfl⟩
  rw [eA] at b1 s1 ⊢
  have G1 := Lib.hid g1
  have cb := (show box W1 A3 (.string s) 9 from b1).cell
  clear g1 b1 s1 e1 eA
  go_wp2_with (go_at_call 40; refine (ready_nil _ _).mono ?_; rintro e w' ⟨rfl, rfl⟩)
  go_ret
  exact ⟨by first | rfl | trivial, Gr.al G1.out _⟩
theorem delete_nil (s : ByteArray) (w : World) : Calls Try.prog 23 #[.pointer none, .string s] w fun e w' => e = .returned (.int .i64 1) ∧ Gr w w' := by
  go_enter Try.func23, Try.ntmps23
  go_wp2_with fail
  obtain ⟨W1, e1, g1, b1, s1⟩ := al_out w (.cells #[.string s] 9)
  rw [e1]
  obtain ⟨A3, eA⟩ : ∃ A, w.heap.size = A := ⟨_, rfl⟩
  rw [eA] at b1 s1 ⊢
  have G1 := Lib.hid g1
  have cb := (show box W1 A3 (.string s) 9 from b1).cell
  clear g1 b1 s1 e1 eA
  go_wp2_with (go_at_call 45; refine (get_nil _ _).mono ?_; rintro e w' ⟨rfl, hb⟩)
  go_ret
  exact ⟨by first | rfl | trivial, G1.out.tr hb⟩
theorem rename_nil (s t : ByteArray) (w : World) : Calls Try.prog 22 #[.pointer none, .string s, .string t] w fun e w' => e = .returned (.int .i64 1) ∧ Gr w w' := by
  go_enter Try.func22, Try.ntmps22
  go_wp2_with fail
  obtain ⟨W1, e1, g1, b1, s1⟩ := al_out w (.cells #[.string s] 9)
  rw [e1]
  obtain ⟨W2, e2, g2, b2, s2⟩ := al_out W1 (.cells #[.string t] 9)
  rw [e2]
  obtain ⟨A3, eA⟩ : ∃ A, w.heap.size = A := ⟨_, rfl⟩
  rw [eA] at b1 s1 ⊢
  rw [s1] at b2
  have G2 := Lib.hid (g1.tr g2)
  have cb := (show box W2 A3 (.string s) 9 from g2.blk b1).cell
  have cb2 := (show box W2 (A3 + 1) (.string t) 9 from b2).cell
  clear g1 b1 s1 e1 eA g2 b2 s2 e2
  go_wp2_with (go_at_call 40; refine (ready_nil _ _).mono ?_; rintro e w' ⟨rfl, rfl⟩)
  go_ret
  exact ⟨by first | rfl | trivial, Gr.al G2.out _⟩
theorem append_nil (s t : ByteArray) (w : World) : Calls Try.prog 15 #[.pointer none, .string s, .string t] w fun e w' => e = .returned (.int .i64 1) ∧ Gr w w' := by
  go_enter Try.func15, Try.ntmps15
  go_wp2_with (go_at_call 45; refine (get_nil _ _).mono ?_; rintro e w' ⟨rfl, hb⟩)
  go_ret
  exact ⟨by first | rfl | trivial, hb⟩
theorem sync_nil (s : ByteArray) (w : World) : Calls Try.prog 16 #[.pointer none, .string s] w fun e w' => e = .returned (.int .i64 1) ∧ Gr w w' := by
  go_enter Try.func16, Try.ntmps16
  go_wp2_with (go_at_call 45; refine (get_nil _ _).mono ?_; rintro e w' ⟨rfl, hb⟩)
  go_ret
  exact ⟨by first | rfl | trivial, hb⟩
theorem sdir_nil (w : World) : Calls Try.prog 13 #[.pointer none] w fun e w' => e = .returned (.int .i64 1) ∧ Gr w w' := by
  go_enter Try.func13, Try.ntmps13
  go_wp2_with (go_at_call 40; refine (ready_nil _ _).mono ?_; rintro e w' ⟨rfl, rfl⟩)
  go_ret
  exact ⟨by first | rfl | trivial, Gr.rfl'⟩
theorem crash_nil (a : Option Addr) (n c : Nat) (w : World) : Calls Try.prog 17 #[.pointer none, .slice a n c] w fun e w' => e = .returned (.tuple #[]) ∧ Gr w w' := by
  go_enter Try.func17, Try.ntmps17
  go_wp2_with fail
  go_step3
  go_wp2_with fail
  rw [Exit.noGoto_ret]
  exact ⟨rfl, .tuple #[], by kernel_rfl, rfl, Gr.al Gr.rfl' _⟩
/-- The zero folder. -/
def zeroF : Fd := ⟨[], [], [], 0, false, false, 0, false, fun _ => ⟨⟨#[]⟩, 0⟩⟩
theorem zeroF_has {m : Nat} (h : zeroF.has m) : False := by
  rcases h with ⟨s, h⟩ | ⟨s, h⟩ | ⟨s, h⟩ <;> cases h
theorem zeroF_ok : zeroF.Ok :=
  ⟨(show (0 : Int) ≤ 0 ∧ (0 : Int) ≤ 1099511627776 from ⟨by decide, by decide⟩), (show (0 : Int) ≤ 0 ∧ (0 : Int) ≤ 9223372036854775807 from ⟨by decide, by decide⟩), (fun h => by cases h), rfl, trivial, List.Pairwise.nil, fun i _ => by
    show (runs [] (List.take i [])).length ≤ 64
    rw [List.take_nil]; exact Nat.zero_le _, fun m hm => (zeroF_has hm).elim⟩
theorem zero_at (w : World) : FdAt (Aft (fun _ => False) w (w.alloc (.cells (fdC zeroF none none (.slice none 0 0)) 64))) (w.alloc (.cells (fdC zeroF none none (.slice none 0 0)) 64)) w.heap.size zeroF := by
  have hs : (w.alloc (.cells (fdC zeroF none none (.slice none 0 0)) 64)).heap.size = w.heap.size + 1 := by simp
  exact FdAt.made (nb := none) (fb := none) (sv := .slice none 0 0) (vs := []) (fun k hk => by rcases hk with hk | hk; exact hk.elim; exact hk.2) (.inr ⟨Nat.le_refl _, by rw [hs]; omega⟩) (heap_alloc_new w _) DirAt.nil (fun k e => by cases e) (fun k e => by cases e) (fun h => absurd rfl h) (fun h => by cases h) (World.ownsRow_nil _ _ _ _) (fun k e => by simp [Value.ownBlock] at e) ⟨DirAt.nil, fun i hi => absurd hi (by simp [zeroF]), fun m hm => (zeroF_has hm).elim⟩
/-- A folder that is well, as it lies. -/
structure Well (X : Nat → Prop) (w : World) (p : Nat) (F : Fd) : Prop where
  ly : FdAt X w p F
  ok : F.Ok
section
variable {X Y : Nat → Prop} {w w' : World} {p : Nat} {F : Fd}
theorem Well.gr (h : Well X w p F) (hg : Gr w w') : Well X w' p F := ⟨h.ly.gr hg, h.ok⟩
theorem Well.bt (h : Well X w p F) (hb : Bt Y w w') (hd : ∀ k, X k → ¬ Y k) : Well X w' p F := ⟨h.ly.bt hb hd, h.ok⟩
/-- What is apart from a folder stays apart, whatever it does. -/
theorem Well.apart {X2 : Nat → Prop} {p2 : Nat} {F2 : Fd} (h2 : Well X2 w p2 F2) (hd : ∀ k, X2 k → ¬ X k) (hb : Bt X w w') : Well X2 w' p2 F2 ∧ ∀ k, X2 k → ¬ Aft X w w' k :=
  ⟨h2.bt hb hd, fun k hk hz => hz.elim (hd k hk) (fun z => by have := h2.ly.xlt k hk; omega)⟩
end
def WPost (X : Nat → Prop) (w : World) (p : Nat) (E : Int) (F' : Fd) (e : Ending) (w' : World) : Prop := e = .returned (.int .i64 E) ∧ Well (Aft X w w') w' p F' ∧ Bt X w w'
theorem wcreate (X : Nat → Prop) (w : World) (p : Nat) (F : Fd) (h : Well X w p F) (hsl : F.since.length ≤ 1000) (s : ByteArray) (hm : s.size ≤ maxLen) :
    Calls Try.prog 12 #[.pointer (some ⟨p, 0, none⟩), .string s] w fun e w' => (okC F s ∧ ∃ n, ¬ F.has n ∧ WPost X w p (createE F s) (createF F s n) e w') ∨ (¬ okC F s ∧ WPost X w p (createE F s) F e w') := by
  refine (create_calls X w p F h.ly h.ok.up h.ok.st hsl s hm).mono ?_
  rintro e w' ⟨rfl, hc, hb⟩
  rcases hc with ⟨hk, n, hn, hf⟩ | ⟨hk, hf⟩
  · have hn' : ¬ F.has n := fun z => by have := h.ly.xlt n (h.ly.files n z).1; omega
    exact .inl ⟨hk, n, hn', rfl, ⟨hf, h.ok.create hk hn'⟩, hb⟩
  · exact .inr ⟨hk, rfl, ⟨hf, h.ok⟩, hb⟩
theorem wdelete (X : Nat → Prop) (w : World) (p : Nat) (F : Fd) (h : Well X w p F) (hsl : F.since.length ≤ 1000) (s : ByteArray) (hm : s.size ≤ maxLen) :
    Calls Try.prog 23 #[.pointer (some ⟨p, 0, none⟩), .string s] w (WPost X w p (deleteE F s) (deleteF F s)) :=
  (delete_calls X w p F h.ly h.ok.up h.ok.st h.ok.nlen hsl s hm).mono fun _ _ h2 => ⟨h2.1, ⟨h2.2.1, h.ok.delete s⟩, h2.2.2⟩
theorem wrename (X : Nat → Prop) (w : World) (p : Nat) (F : Fd) (h : Well X w p F) (hsl : F.since.length ≤ 1000) (s t : ByteArray) (hm : s.size ≤ maxLen) (hmt : t.size ≤ maxLen) :
    Calls Try.prog 22 #[.pointer (some ⟨p, 0, none⟩), .string s, .string t] w (WPost X w p (renameE F s t) (renameF F s t)) :=
  (rename_calls X w p F h.ly h.ok.up h.ok.st h.ok.nlen hsl s t hm hmt).mono fun _ _ h2 => ⟨h2.1, ⟨h2.2.1, h.ok.rename s t⟩, h2.2.2⟩
theorem wsync (X : Nat → Prop) (w : World) (p : Nat) (F : Fd) (h : Well X w p F) (s : ByteArray) (hm : s.size ≤ maxLen) :
    Calls Try.prog 16 #[.pointer (some ⟨p, 0, none⟩), .string s] w (WPost X w p (syncE F s) (syncF F s)) :=
  (sync_calls X w p F h.ly h.ok.st s hm).mono fun _ _ h2 => ⟨h2.1, ⟨h2.2.1, h.ok.sync s⟩, h2.2.2⟩
theorem wappend (X : Nat → Prop) (w : World) (p : Nat) (F : Fd) (h : Well X w p F) (s t : ByteArray) (hm : s.size ≤ maxLen) (ht : t.size ≤ 1000000) :
    Calls Try.prog 15 #[.pointer (some ⟨p, 0, none⟩), .string s, .string t] w (WPost X w p (appE F s t) (appF F s t)) :=
  (append_calls X w p F h.ly h.ok.up h.ok.st h.ok.nlen h.ok.nsz s t hm ht).mono fun _ _ h2 => ⟨h2.1, ⟨h2.2.1, h.ok.app s t⟩, h2.2.2⟩
theorem wsdir (X : Nat → Prop) (w : World) (p : Nat) (F : Fd) (h : Well X w p F) : Calls Try.prog 13 #[.pointer (some ⟨p, 0, none⟩)] w (WPost X w p (sdirE F) (sdirF F)) :=
  (sdir_calls X w p F h.ly h.ok.st).mono fun _ _ h2 => ⟨h2.1, ⟨h2.2.1, h.ok.sdir⟩, h2.2.2⟩
theorem wcrash (X : Nat → Prop) (w : World) (p : Nat) (F : Fd) (h : Well X w p F) (hsl : F.since.length ≤ 1000) (v : Value) (ps : List Int) (hv : rdRow w 1 v ps.length (encI ps)) (hps : ∀ x ∈ ps, I64 x) (hpl : ps.length ≤ maxLen) :
    Calls Try.prog 17 #[.pointer (some ⟨p, 0, none⟩), v] w fun e w' => e = .returned (.tuple #[]) ∧ ∃ L fl, Crashed F ps L fl ∧ Well (Aft X w w') w' p (crashF F L fl) ∧ Bt X w w' :=
  (crash_calls X w p F h.ly h.ok.can h.ok.len hsl h.ok.sz v ps hv hps hpl).mono fun _ _ h2 => by
    obtain ⟨he, L, fl, hc, hf, hb⟩ := h2
    exact ⟨he, L, fl, hc, ⟨hf, h.ok.crash hc⟩, hb⟩
theorem wnew (n : Int) (w : World) : Calls Try.prog 11 #[.int .i64 n] w fun e w' => ∃ p, e = .returned (.pointer (some ⟨p, 0, none⟩)) ∧ Well (Aft (fun _ => False) w w') w' p (newF n) ∧ Gr w w' :=
  (fnew_calls n w).mono fun _ _ ⟨p, he, hf, hg⟩ => ⟨p, he, ⟨hf, newF_ok n⟩, hg⟩
end Go.Proofs.Ytdopmcepfacdlaa
