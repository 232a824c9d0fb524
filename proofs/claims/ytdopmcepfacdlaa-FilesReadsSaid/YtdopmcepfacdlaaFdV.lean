/- awake: the chapter's examples. -/
import Derived.Test.YtdopmcepfacdlaaFdU
namespace Go.Proofs.Ytdopmcepfacdlaa
open Go.RowKit Go.Maps

abbrev sA : ByteArray := ⟨#[97]⟩
abbrev sB : ByteArray := ⟨#[98]⟩
abbrev sXyz : ByteArray := ⟨#[120, 121, 122]⟩
abbrev sUv : ByteArray := ⟨#[117, 118]⟩
theorem okA : NameOk sA := by decide
theorem okB : NameOk sB := by decide
theorem sizes_one (fl : Nat → Fl) (s : ByteArray) (n : Nat) : sizes fl [(s, n)] = (fl n).b.size := by simp [sizes]
theorem updF_same (fl : Nat → Fl) (n : Nat) (x : Fl) : updF fl n x n = x := if_pos rfl
theorem updF_other (fl : Nat → Fl) {n m : Nat} (x : Fl) (h : m ≠ n) : updF fl n x m = fl m := if_neg h
theorem new_now (k : Int) : (newF k).now = [] := rfl
theorem crash_none {F : Fd} {ps : List Int} {L : Dir} {fl : Nat → Fl} (hc : Crashed F ps L fl) (h : leftD F ps = []) : L = [] := by
  have := hc.len
  rw [h] at this
  exact List.length_eq_zero_iff.1 this
theorem crash_one {F : Fd} {ps : List Int} {L : Dir} {fl : Nat → Fl} (hc : Crashed F ps L fl) {s : ByteArray} {n : Nat} (h : leftD F ps = [(s, n)]) :
    ∃ m, L = [(s, m)] ∧ fl m = cutFl (F.fl n) (pk (ps.getD 1 0) ((F.fl n).b.size - (F.fl n).sy)) := by
  have hl := hc.len
  rw [h] at hl
  match L, hl, hc with
  | [(t, m)], _, hc =>
    have e := hc.each 0 (by rw [h]; simp) (by simp)
    simp only [h, List.getElem_cons_zero, Nat.add_zero] at e
    exact ⟨m, by rw [e.1], e.2⟩
theorem pk_zero (n : Int) : pk 0 n = 0 := by unfold pk; simp
set_option maxRecDepth 100000 in
/-- What the example's first folder is ahead of its crash. -/
theorem ex_f (n : Nat) : (createF (newF 100) sA n).Free ∧ (createF (newF 100) sA n).now = [(sA, n)] ∧ (createF (newF 100) sA n).firm = [] ∧ (createF (newF 100) sA n).since = [.cre sA n] ∧ (createF (newF 100) sA n).room = 100 ∧ (createF (newF 100) sA n).fl n = ⟨⟨#[]⟩, 0⟩ := by
  rw [(newF_free 100).createF]
  exact ⟨⟨rfl, rfl⟩, rfl, rfl, rfl, rfl, updF_same _ _ _⟩
theorem left_nil (F : Fd) : leftD F [] = F.firm := by
  unfold leftD manyF
  rw [show ([] : List Int).headD 0 = 0 from rfl, pk_zero]; rfl
theorem left_zero (F : Fd) (r : List Int) : leftD F (0 :: r) = F.firm := by
  unfold leftD manyF
  rw [show ((0 : Int) :: r).headD 0 = 0 from rfl, pk_zero]; rfl
/-- One file, a, with these bytes. -/
def GA (F : Fd) (n : Nat) (fm : Dir) (os : List FOp) (b : ByteArray) (sy : Int) : Prop := F.Free ∧ F.now = [(sA, n)] ∧ F.firm = fm ∧ F.since = os ∧ F.room = 100 ∧ F.fl n = ⟨b, sy⟩
section
variable {F : Fd} {n : Nat} {fm : Dir} {os : List FOp} {b t : ByteArray} {sy : Int}
theorem GA.look (h : GA F n fm os b sy) : look F.now sA = some n := by rw [h.2.1]; rfl
theorem GA.app (h : GA F n fm os b sy) (hr : b.size + t.size ≤ 100) : appE F sA t = 0 ∧ GA (appF F sA t) n fm os (b ++ t) sy := by
  obtain ⟨h1, h2⟩ := h.1.app (t := t) okA h.look (by unfold usedF; rw [h.2.1, sizes_one, h.2.2.2.2.2, h.2.2.2.2.1]; show ((b.size : Nat) : Int) + _ ≤ 100; omega)
  refine ⟨h1, ?_⟩
  rw [h2]
  exact ⟨⟨h.1.on, h.1.armed⟩, h.2.1, h.2.2.1, h.2.2.2.1, h.2.2.2.2.1, by show updF F.fl n _ n = _; rw [updF_same, h.2.2.2.2.2]⟩
theorem GA.sync (h : GA F n fm os b sy) : GA (syncF F sA) n fm os b b.size := by
  rw [(h.1.sync okA h.look).2]
  exact ⟨⟨h.1.on, h.1.armed⟩, h.2.1, h.2.2.1, h.2.2.2.1, h.2.2.2.2.1, by show updF F.fl n _ n = _; rw [updF_same, h.2.2.2.2.2]⟩
theorem GA.sdir (h : GA F n fm os b sy) : GA (sdirF F) n [(sA, n)] [] b sy := by
  rw [h.1.sdir.2]
  exact ⟨⟨h.1.on, h.1.armed⟩, h.2.1, h.2.1, rfl, h.2.2.2.2.1, h.2.2.2.2.2⟩
end
theorem ex_a (n : Nat) : GA (createF (newF 100) sA n) n [] [.cre sA n] ⟨#[]⟩ 0 := ex_f n
set_option maxRecDepth 100000 in
theorem ex_h (n m : Nat) {L : Dir} {fl : Nat → Fl} (hc : Crashed (createF (createF (newF 100) sA n) sB m) [1] L fl) : ∃ k, L = [(sA, k)] := by
  have h := ex_a n
  have e : leftD (createF (createF (newF 100) sA n) sB m) [1] = [(sA, n)] := by
    rw [h.1.createF]
    unfold leftD manyF
    show runs (createF (newF 100) sA n).firm (List.take _ ((createF (newF 100) sA n).since ++ [FOp.cre sB m])) = _
    rw [h.2.2.1]
    show runs [] (List.take (pk 1 (((createF (newF 100) sA n).since ++ [FOp.cre sB m]).length : Int)).toNat _) = _
    rw [h.2.2.2.1]
    rfl
  obtain ⟨k, e1, _⟩ := crash_one hc e
  exact ⟨k, e1⟩
set_option maxRecDepth 100000 in
set_option maxHeartbeats 4000000 in
theorem awake_calls (w : World) : Calls Try.prog 10 #[] w fun e w' => e = .returned (.bool true) ∧ Gr w w' := by
  go_enter Try.func10, Try.ntmps10
  go_wp2_with fail
  refine (wnew 100 w).mono ?_
  rintro e w1 ⟨p1, rfl, a1, g1⟩
  have A1 := Lib.hid a1; have G1 := Lib.hid g1
  clear a1 g1
  go_wp2_with fail
  refine (wnew 100 w1).mono ?_
  rintro e w2 ⟨p2, rfl, a2, g2⟩
  have A2 := Lib.hid a2; have G2 := Lib.hid g2
  clear a2 g2
  go_wp2_with fail
  refine (wnew 100 w2).mono ?_
  rintro e w3 ⟨p3, rfl, a3, g3⟩
  have H := Lib.hid (three_new 100 100 100 A1.out G1.out A2.out G2.out a3 g3)
  clear a3 g3 A1 A2 G1 G2
  go_wp2_with fail
  -- f: Create a
  refine (H.out.create (by simp [newF]) sA (by decide) ((newF_free 100).okc okA rfl (by decide))).mono ?_
  rintro e w4 ⟨n1, _, rfl, h4⟩
  obtain ⟨f1, f2, f3, f4, f5, f6⟩ := ex_f n1
  have F1 := Lib.hid (And.intro f1 (And.intro f2 (And.intro f3 (And.intro f4 (And.intro f5 f6)))))
  have H4 := Lib.hid h4
  clear h4 f1 f2 f3 f4 f5 f6 H
  generalize createF (newF 100) sA n1 = Fa at *
  go_wp2_with fail
  refine (H4.out.append sA sXyz (by decide) (by decide)).mono ?_
  rintro e w5 ⟨rfl, h5⟩
  have e5 := (F1.out.1.app (t := sXyz) okA (n := n1) (by rw [F1.out.2.1]; rfl) (by unfold usedF; rw [F1.out.2.1, sizes_one, F1.out.2.2.2.2.2, F1.out.2.2.2.2.1]; decide)).2
  rw [e5] at h5
  have H5 := Lib.hid h5
  clear h5 e5 H4
  go_wp2_with fail
  refine (H5.out.crash (by show Fa.since.length ≤ 1000; rw [F1.out.2.2.2.1]; simp) (.slice none 0 0) [] ⟨rfl, none, 0, rfl, Nat.le_refl _, fun h => absurd h (by decide)⟩ (fun x hx => by cases hx) (by decide)).mono ?_
  rintro e w6 ⟨rfl, L1, fl1, hc1, h6⟩
  have hL1 : L1 = [] := crash_none hc1 ((left_nil _).trans F1.out.2.2.1)
  subst hL1
  have H6 := Lib.hid h6.rot
  clear h6 hc1 H5 F1
  -- g: Create a
  go_wp2_with fail
  refine (H6.out.create (by simp [newF]) sA (by decide) ((newF_free 100).okc okA rfl (by decide))).mono ?_
  rintro e w7 ⟨n2, _, rfl, h7⟩
  have F2 := Lib.hid (ex_a n2)
  have H7 := Lib.hid h7
  clear h7 H6
  generalize createF (newF 100) sA n2 = Fb at *
  go_wp2_with fail
  refine H7.out.sdir.mono ?_
  rintro e w8 ⟨rfl, h8⟩
  have F3 := Lib.hid F2.out.sdir
  have H8 := Lib.hid h8
  clear h8 H7 F2
  generalize sdirF Fb = Fc at *
  go_wp2_with fail
  refine (H8.out.append sA sXyz (by decide) (by decide)).mono ?_
  rintro e w9 ⟨rfl, h9⟩
  have F4 := Lib.hid (F3.out.app (t := sXyz) (by decide)).2
  have H9 := Lib.hid h9
  clear h9 H8 F3
  generalize appF Fc sA sXyz = Fd1 at *
  go_wp2_with fail
  refine (H9.out.sync sA (by decide)).mono ?_
  rintro e w10 ⟨rfl, h10⟩
  have F5 := Lib.hid F4.out.sync
  have H10 := Lib.hid h10
  clear h10 H9 F4
  generalize syncF Fd1 sA = Fe at *
  go_wp2_with fail
  refine (H10.out.append sA sUv (by decide) (by decide)).mono ?_
  rintro e w11 ⟨rfl, h11⟩
  have F6 := Lib.hid (F5.out.app (t := sUv) (by decide)).2
  have H11 := Lib.hid h11
  clear h11 H10 F5
  generalize appF Fe sA sUv = Ff at *
  go_wp2_with fail
  have h12 := H11.out.grow (Gr.al Gr.rfl' (.cells #[.int .i64 0, .int .i64 1] 3))
  have hrd : rdRow (w11.alloc (.cells #[.int .i64 0, .int .i64 1] 3)) 1 (.slice (some ⟨w11.heap.size, 0, none⟩) 2 2) [0, 1].length (encI [0, 1]) :=
    ⟨rfl, _, 2, rfl, Nat.le_refl _, fun _ => ⟨w11.heap.size, 0, rfl, fun j u hu => by rw [cell_of_row _ _ _ _ _ _ (heap_alloc_new w11 _)]; simpa [encI] using hu⟩⟩
  refine (h12.crash (by rw [F6.out.2.2.2.1]; simp) _ [0, 1] hrd (fun x hx => by unfold I64; simp at hx; omega) (by decide)).mono ?_
  rintro e w13 ⟨rfl, L2, fl2, hc2, h13⟩
  obtain ⟨m2, rfl, hfl2⟩ := crash_one hc2 ((left_zero _ _).trans F6.out.2.2.1)
  rw [F6.out.2.2.2.2.2] at hfl2
  have hb2 : (fl2 m2).b = ⟨#[120, 121, 122, 117]⟩ := by rw [hfl2]; rfl
  have H13 := Lib.hid h13; have HB2 := Lib.hid hb2
  clear h13 hb2 hfl2 hc2 h12 hrd F6 H11
  go_wp2_with fail
  refine (H13.out.read sA (by decide)).mono ?_
  rintro e w14 ⟨rfl, h14⟩
  have hgt := (crashF_free (F := Ff) [(sA, m2)] fl2).get okA (n := m2) rfl
  have hrb : readB (crashF Ff [(sA, m2)] fl2) sA = ⟨#[120, 121, 122, 117]⟩ := by unfold readB; rw [hgt.2]; exact HB2.out
  rw [hgt.1, hrb]
  have H14 := Lib.hid h14.rot
  clear h14 hgt hrb H13 HB2
  go_wp2_with fail
  refine (H14.out.create (by simp [newF]) sA (by decide) ((newF_free 100).okc okA rfl (by decide))).mono ?_
  rintro e w15 ⟨n3, _, rfl, h15⟩
  have H15 := Lib.hid h15
  clear h15 H14
  go_wp2_with fail
  have ga := ex_a n3
  refine (H15.out.create (by rw [ga.2.2.2.1]; simp) sB (by decide) (ga.1.okc okB (by rw [ga.2.1]; show (if sA = sB then some n3 else none) = none; rw [if_neg (by decide)]) (by rw [ga.2.1]; simp))).mono ?_
  rintro e w16 ⟨n4, _, rfl, h16⟩
  have hsl : (createF (createF (newF 100) sA n3) sB n4).since.length ≤ 1000 := by rw [ga.1.createF]; show ((createF (newF 100) sA n3).since ++ [FOp.cre sB n4]).length ≤ 1000; rw [ga.2.2.2.1]; simp
  have H16 := Lib.hid h16; have HSl := Lib.hid hsl
  have HEx := Lib.hid (fun L fl hc => ex_h n3 n4 (L := L) (fl := fl) hc)
  clear h16 H15 ga hsl
  generalize createF (createF (newF 100) sA n3) sB n4 = Fh at *
  go_wp2_with fail
  have h17 := H16.out.grow (Gr.al Gr.rfl' (.cells #[.int .i64 1] 3))
  have hrd : rdRow (w16.alloc (.cells #[.int .i64 1] 3)) 1 (.slice (some ⟨w16.heap.size, 0, none⟩) 1 1) [1].length (encI [1]) :=
    ⟨rfl, _, 1, rfl, Nat.le_refl _, fun _ => ⟨w16.heap.size, 0, rfl, fun j u hu => by rw [cell_of_row _ _ _ _ _ _ (heap_alloc_new w16 _)]; simpa [encI] using hu⟩⟩
  refine (h17.crash HSl.out _ [1] hrd (fun x hx => by unfold I64; simp at hx; omega) (by decide)).mono ?_
  rintro e w18 ⟨rfl, L3, fl3, hc3, h18⟩
  obtain ⟨m3, rfl⟩ := HEx.out L3 fl3 hc3
  have H18 := Lib.hid h18
  clear h18 hc3 h17 hrd HEx HSl H16
  go_wp2_with fail
  refine H18.out.names.mono ?_
  rintro e w19 ⟨v19, rfl, ho19, hg19⟩
  have H19 := Lib.hid (H18.out.grow hg19).rot
  have hr19 : rdRow w19 1 v19 1 [.string sA] := rdRow_of_own ho19
  obtain ⟨_, a19, c19, rfl, hc19, hr19⟩ := hr19
  obtain ⟨b19, o19, rfl, hcl⟩ := hr19 (by decide)
  have cs : w19.cell? ⟨b19, o19, none⟩ = some (.string sA) := hcl 0 (.string sA) rfl
  clear hcl hr19 ho19 H18 hg19
  go_wp2_with fail
  refine H19.out.names.mono ?_
  rintro e w20 ⟨v20, rfl, ho20, hg20⟩
  obtain ⟨_, a20, c20, rfl, hc20, _⟩ := rdRow_of_own ho20
  have hn0 : (crashF { Fa with fl := updF Fa.fl n1 ⟨(Fa.fl n1).b ++ sXyz, (Fa.fl n1).sy⟩ } [] fl1).now.length = 0 := rfl
  rw [hn0]
  have cs2 := keepc hg20 cs
  obtain ⟨X1, X2, X3, h19⟩ := H19.out
  have HG := Lib.hid (h19.gr.tr hg20)
  clear ho20 hg20 h19 H19
  go_wp2_with fail
  go_ret
  exact ⟨rfl, HG.out⟩
end Go.Proofs.Ytdopmcepfacdlaa
