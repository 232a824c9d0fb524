/- FilesSwaps: the walk. -/
import Derived.Test.YtdopmcepfacdlaaFdZ
namespace Go.Proofs.Ytdopmcepfacdlaa
open Go.RowKit Go.Maps

set_option maxRecDepth 100000 in
set_option maxHeartbeats 4000000 in
theorem swaps_law (a0 b0 : ByteArray) (dir : Bool) (v : Value) (ps : List Int) (w : World) (hv : rdRow w 1 v ps.length (encI ps)) (hps : ∀ x ∈ ps, I64 x) (hpl : ps.length ≤ maxLen) :
    Calls Try.prog 6 #[.agg #[.string a0, .string b0], .bool dir, v] w fun e w' => e = .returned (.bool true) ∧ Gr w w' := by
  have HV := Lib.hid (And.intro hv (And.intro hps hpl))
  clear hv hps hpl
  go_enter Try.func6, Try.ntmps6
  go_wp2_with fail
  obtain ⟨W1, e1, g1, b1, s1⟩ := al_out w (.cells #[.string a0, .string b0] 41)
  rw [e1]
  obtain ⟨A3, eA⟩ : ∃ A, w.heap.size = A := ⟨_, rfl⟩
  rw [eA] at b1 s1 ⊢
  have B1 := Lib.hid b1; have G1 := Lib.hid g1
  clear b1 g1 s1 e1 eA
  refine (awake_calls _).mono ?_
  rintro e w1 ⟨rfl, hg1⟩
  have c0 := (cell_of_row w1 A3 0 _ _ _ (hg1.blk B1.out)).trans rfl
  have c1 := (cell_of_row w1 A3 1 _ _ _ (hg1.blk B1.out)).trans rfl
  have G2 := Lib.hid (G1.out.tr hg1)
  clear hg1 G1 B1
  go_wp2_with fail
  refine (short_calls a0 200 (by decide) _).mono ?_
  rintro e w' ⟨a, rfl, ha, rfl⟩
  go_wp2_with fail
  refine (short_calls b0 200 (by decide) _).mono ?_
  rintro e w' ⟨b, rfl, hb, rfl⟩
  have HL := Lib.hid (And.intro ha hb)
  clear ha hb c0 c1
  go_wp2_with fail
  refine (wnew 100000 _).mono ?_
  rintro e w2 ⟨p, rfl, hw, hg⟩
  have H0 := Lib.hid (One.new hw hg G2.out)
  have F0 := Lib.hid (show FS (newF 100000) [] [] [] 100000 from FS.new 100000)
  clear hw hg G2
  generalize newF 100000 = Fa at *
  go_wp2_with fail
  refine (H0.out.create (by rw [F0.out.since]; simp) sNow (by decide)).mono ?_
  rintro e w3 ⟨rfl, h3⟩
  have hk : okC Fa sNow := F0.out.okc okNow rfl (by decide)
  obtain ⟨m, h3⟩ : ∃ m, One w w3 p (createF Fa sNow m) := by
    rcases h3 with ⟨_, m, _, h3⟩ | ⟨hno, _⟩
    · exact ⟨m, h3⟩
    · exact absurd hk hno
  have f1 := F0.out.create (s := sNow) m
  have H3 := Lib.hid h3
  have F1 := Lib.hid (show FS (createF Fa sNow m) [(sNow, m)] [] [.cre sNow m] 100000 ∧ (createF Fa sNow m).fl m = ⟨⟨#[]⟩, 0⟩ from ⟨f1.1, f1.2.1⟩)
  clear h3 hk H0 F0 f1
  generalize createF Fa sNow m = Fb at *
  go_wp2_with fail
  refine (H3.out.append sNow a (by decide) (by have := HL.out.1; omega)).mono ?_
  rintro e w4 ⟨rfl, h4⟩
  have f2 := F1.out.1.app (t := a) okNow (n := m) rfl (by rw [sizes_one, F1.out.2]; have := HL.out.1; show ((0 : Nat) : Int) + _ ≤ _; omega)
  rw [F1.out.2] at f2
  have H4 := Lib.hid h4
  have F2 := Lib.hid (show FS (appF Fb sNow a) [(sNow, m)] [] [.cre sNow m] 100000 ∧ (appF Fb sNow a).fl m = ⟨a, 0⟩ from ⟨f2.2.1, by rw [f2.2.2.1, empty_app]⟩)
  clear h4 H3 F1 f2
  generalize appF Fb sNow a = Fc at *
  go_wp2_with fail
  refine (H4.out.sync sNow (by decide)).mono ?_
  rintro e w5 ⟨rfl, h5⟩
  have f3 := F2.out.1.sync okNow (n := m) rfl
  rw [F2.out.2] at f3
  have H5 := Lib.hid h5
  have F3 := Lib.hid (And.intro f3.2.1 f3.2.2.1)
  clear h5 H4 F2 f3
  generalize syncF Fc sNow = Fd1 at *
  go_wp2_with fail
  refine H5.out.sdir.mono ?_
  rintro e w6 ⟨rfl, h6⟩
  have f4 := F3.out.1.sdir
  have H6 := Lib.hid h6
  have F4 := Lib.hid (show FS (sdirF Fd1) [(sNow, m)] [(sNow, m)] [] 100000 ∧ (sdirF Fd1).fl m = ⟨a, a.size⟩ from ⟨f4.2.1, by rw [f4.2.2]; exact F3.out.2⟩)
  clear h6 H5 F3 f4
  generalize sdirF Fd1 = Fe at *
  go_wp2_with fail
  refine (H6.out.create (by rw [F4.out.1.since]; simp) sNext (by decide)).mono ?_
  rintro e w7 ⟨rfl, h7⟩
  have hk : okC Fe sNext := F4.out.1.okc okNext (by show (if sNow = sNext then some m else none) = none; rw [if_neg (by decide)]) (show (1 : Nat) < 64 from by decide)
  obtain ⟨n, hn, h7⟩ : ∃ n, ¬ Fe.has n ∧ One w w7 p (createF Fe sNext n) := by
    rcases h7 with ⟨_, m, hm, h3⟩ | ⟨hno, _⟩
    · exact ⟨m, hm, h3⟩
    · exact absurd hk hno
  have hmn : m ≠ n := fun z => hn (by subst z; exact .inl ⟨sNow, by rw [F4.out.1.now]; exact List.mem_singleton.2 rfl⟩)
  have f5 := F4.out.1.create (s := sNext) n
  have H7 := Lib.hid h7
  have hins : insD [(sNow, m)] sNext n = [(sNext, n), (sNow, m)] := by
    unfold insD
    rw [if_neg (by decide), if_pos (by decide)]
  rw [hins] at f5
  have F5 := Lib.hid (show FS (createF Fe sNext n) [(sNext, n), (sNow, m)] [(sNow, m)] [.cre sNext n] 100000 ∧ (createF Fe sNext n).fl n = ⟨⟨#[]⟩, 0⟩ ∧ (createF Fe sNext n).fl m = ⟨a, a.size⟩ from ⟨f5.1, f5.2.1, by rw [f5.2.2 m hmn]; exact F4.out.2⟩)
  have HM := Lib.hid hmn
  clear h7 hk H6 F4 f5 hins hn hmn
  generalize createF Fe sNext n = Ff at *
  go_wp2_with fail
  refine (H7.out.append sNext b (by decide) (by have := HL.out.2; omega)).mono ?_
  rintro e w8 ⟨rfl, h8⟩
  have f6 := F5.out.1.app (t := b) okNext (n := n) rfl (by
    have h1 := HL.out.1; have h2 := HL.out.2
    have : sizes Ff.fl [(sNext, n), (sNow, m)] = 0 + (a.size + 0) := by unfold sizes; simp only [List.map_cons, List.map_nil, List.sum_cons, List.sum_nil, F5.out.2.1, F5.out.2.2]; rfl
    rw [this]; omega)
  rw [F5.out.2.1] at f6
  have H8 := Lib.hid h8
  have F6 := Lib.hid (show FS (appF Ff sNext b) [(sNext, n), (sNow, m)] [(sNow, m)] [.cre sNext n] 100000 ∧ (appF Ff sNext b).fl n = ⟨b, 0⟩ ∧ (appF Ff sNext b).fl m = ⟨a, a.size⟩ from ⟨f6.2.1, by rw [f6.2.2.1, empty_app], by rw [f6.2.2.2 m HM.out]; exact F5.out.2.2⟩)
  clear h8 H7 F5 f6
  generalize appF Ff sNext b = Fg at *
  go_wp2_with fail
  refine (H8.out.sync sNext (by decide)).mono ?_
  rintro e w9 ⟨rfl, h9⟩
  have f7 := F6.out.1.sync okNext (n := n) rfl
  rw [F6.out.2.1] at f7
  have H9 := Lib.hid h9
  have F7 := Lib.hid (show FS (syncF Fg sNext) [(sNext, n), (sNow, m)] [(sNow, m)] [.cre sNext n] 100000 ∧ (syncF Fg sNext).fl n = ⟨b, b.size⟩ ∧ (syncF Fg sNext).fl m = ⟨a, a.size⟩ from ⟨f7.2.1, f7.2.2.1, by rw [f7.2.2.2 m HM.out]; exact F6.out.2.2⟩)
  clear h9 H8 F6 f7
  generalize syncF Fg sNext = Fh at *
  go_wp2_with fail
  refine (H9.out.rename (by rw [F7.out.1.since]; simp) sNext sNow (by decide) (by decide)).mono ?_
  rintro e w10 ⟨rfl, h10⟩
  have f8 := F7.out.1.rename okNext okNow (n := n) rfl
  have hren : insD (delD [(sNext, n), (sNow, m)] sNext) sNow n = [(sNow, n)] := by
    have : delD [(sNext, n), (sNow, m)] sNext = [(sNow, m)] := by
      have h1 : decide (sNow ≠ sNext) = true := by decide
      have h2 : decide (sNext ≠ sNext) = false := by decide
      unfold delD
      simp only [List.filter, h1, h2]
    rw [this]; unfold insD; rw [if_pos rfl]
  rw [hren] at f8
  rw [f8.1]
  have H10 := Lib.hid h10
  have F8 := Lib.hid (show FS (renameF Fh sNext sNow) [(sNow, n)] [(sNow, m)] [.cre sNext n, .ren sNext sNow] 100000 ∧ (renameF Fh sNext sNow).fl n = ⟨b, b.size⟩ ∧ (renameF Fh sNext sNow).fl m = ⟨a, a.size⟩ from ⟨f8.2.1, by rw [f8.2.2]; exact F7.out.2.1, by rw [f8.2.2]; exact F7.out.2.2⟩)
  clear h10 H9 F7 f8 hren HM HL
  generalize renameF Fh sNext sNow = Fi at *
  have hsw : ∀ (G : Fd), (dir = true ∧ FS G [(sNow, n)] [(sNow, n)] [] 100000 ∧ G.fl n = ⟨b, b.size⟩) ∨ (dir = false ∧ G = Fi) → Sw a b dir G := by
    rintro G (⟨h1, h2, h3⟩ | ⟨h1, rfl⟩)
    · exact ⟨m, n, h3, .inl ⟨h1, h2⟩⟩
    · exact ⟨m, n, F8.out.2.1, .inr ⟨h1, F8.out.2.2, F8.out.1⟩⟩
  have HSW := Lib.hid hsw
  clear hsw
  cases dir with
  | false =>
    have HS := Lib.hid (HSW.out Fi (.inr ⟨(by first | rfl | trivial), rfl⟩))
    have HSl := Lib.hid (show Fi.since.length ≤ 1000 by rw [F8.out.1.since]; simp)
    clear HSW F8
    have HH := H10
    clear H10
    go_wp2_with fail
    refine (HH.out.crash HSl.out v ps (HV.out.1.gr HH.out.gr) HV.out.2.1 HV.out.2.2).mono ?_
    rintro e w11 ⟨rfl, L, fl, hc, h11⟩
    have hcr := HS.out.crash hc
    have H11 := Lib.hid h11; have HC := Lib.hid hcr
    clear h11 hc hcr HS HSl HH HV
    generalize crashF _ L fl = Fz at *
    go_wp2_with fail
    refine (H11.out.read sNow (by decide)).mono ?_
    rintro e w12 ⟨rfl, h12⟩
    obtain ⟨g1, g2⟩ := HC.out
    rw [g1]
    have G12 := Lib.hid h12.gr
    clear h12 H11 HC g1
    generalize readB Fz sNow = s at *
    rcases g2 with rfl | ⟨rfl, hd⟩
    · go_wp2_with fail
      all_goals (go_ret; exact ⟨(by first | rfl | trivial), G12.out⟩)
    · first
      | exact absurd hd (by decide)
      | by_cases hab : s = b
        · subst hab
          go_wp2_with fail
          all_goals (go_ret; exact ⟨(by first | rfl | trivial), G12.out⟩)
        · go_wp2_with fail
          all_goals (go_ret; exact ⟨(by first | rfl | trivial), G12.out⟩)
  | true =>
    go_wp2_with fail
    refine H10.out.sdir.mono ?_
    rintro e w10b ⟨rfl, h10b⟩
    have f9 := F8.out.1.sdir
    rw [f9.1]
    have HS := Lib.hid (HSW.out (sdirF Fi) (.inl ⟨(by first | rfl | trivial), f9.2.1, by rw [f9.2.2]; exact F8.out.2.1⟩))
    have HSl := Lib.hid (show (sdirF Fi).since.length ≤ 1000 by rw [f9.2.1.since]; simp)
    have HH := Lib.hid h10b
    clear HSW F8 f9 h10b H10
    generalize sdirF Fi = Fi' at *
    go_wp2_with fail
    refine (HH.out.crash HSl.out v ps (HV.out.1.gr HH.out.gr) HV.out.2.1 HV.out.2.2).mono ?_
    rintro e w11 ⟨rfl, L, fl, hc, h11⟩
    have hcr := HS.out.crash hc
    have H11 := Lib.hid h11; have HC := Lib.hid hcr
    clear h11 hc hcr HS HSl HH HV
    generalize crashF _ L fl = Fz at *
    go_wp2_with fail
    refine (H11.out.read sNow (by decide)).mono ?_
    rintro e w12 ⟨rfl, h12⟩
    obtain ⟨g1, g2⟩ := HC.out
    rw [g1]
    have G12 := Lib.hid h12.gr
    clear h12 H11 HC g1
    generalize readB Fz sNow = s at *
    rcases g2 with rfl | ⟨rfl, hd⟩
    · go_wp2_with fail
      all_goals (go_ret; exact ⟨(by first | rfl | trivial), G12.out⟩)
    · first
      | exact absurd hd (by decide)
      | by_cases hab : s = b
        · subst hab
          go_wp2_with fail
          all_goals (go_ret; exact ⟨(by first | rfl | trivial), G12.out⟩)
        · go_wp2_with fail
          all_goals (go_ret; exact ⟨(by first | rfl | trivial), G12.out⟩)
end Go.Proofs.Ytdopmcepfacdlaa
