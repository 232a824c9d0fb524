/- FilesLasts. -/
import Derived.Test.YtdopmcepfacdlaaFeA
namespace Go.Proofs.Ytdopmcepfacdlaa
open Go.RowKit Go.Maps

abbrev sWord : ByteArray := ⟨#[110, 101, 119]⟩
/-- The folder with one file, a. -/
def Fa1 (m : Nat) (b : ByteArray) (sy : Int) (F : Fd) : Prop := FS F [(sA, m)] [(sA, m)] [] 100000 ∧ F.fl m = ⟨b, sy⟩
theorem Fa1.app {m : Nat} {b t : ByteArray} {sy : Int} {F : Fd} (h : Fa1 m b sy F) (hr : b.size + t.size ≤ 100000) : Fa1 m (b ++ t) sy (appF F sA t) := by
  have f := h.1.app (t := t) okA (n := m) rfl (by rw [sizes_one, h.2]; show ((b.size : Nat) : Int) + _ ≤ _; omega)
  exact ⟨f.2.1, by rw [f.2.2.1, h.2]⟩
/-- The folder ahead of the crash. -/
def Fa2 (firm all : ByteArray) (F : Fd) : Prop := firm.size ≤ all.size ∧ ∃ m n, FS F [(sA, m), (sB, n)] [(sA, m)] [.cre sB n] 100000 ∧ F.fl m = ⟨all, firm.size⟩ ∧ F.fl n = ⟨sWord, sWord.size⟩
theorem Fa2.crash {firm all : ByteArray} {F : Fd} (h : Fa2 firm all F) {ps : List Int} {L : Dir} {fl : Nat → Fl} (hc : Crashed F ps L fl) :
    getE (crashF F L fl) sA = 0 ∧ (∃ q : Nat, firm.size ≤ q ∧ q ≤ all.size ∧ readB (crashF F L fl) sA = all.extract 0 q) ∧ ((pk (ps.headD 0) 1 = 0 ∧ getE (crashF F L fl) sB = 12) ∨ (pk (ps.headD 0) 1 = 1 ∧ getE (crashF F L fl) sB = 0 ∧ readB (crashF F L fl) sB = sWord)) := by
  obtain ⟨hsz, m, n, hf, hm, hn⟩ := h
  have hC := FS.crash (F := F) (r := F.room) L fl rfl
  have hp := pk_in (ps.headD 0) (n := 1) (by omega)
  have hM : manyF F ps = (pk (ps.headD 0) 1).toNat := by unfold manyF; rw [hf.since]; rfl
  have ha : ∀ k, fl k = cutFl (F.fl m) (pk (ps.getD 1 0) (((F.fl m).b.size : Int) - (F.fl m).sy)) → ∃ q : Nat, firm.size ≤ q ∧ q ≤ all.size ∧ (fl k).b = all.extract 0 q := by
    intro k hk
    rw [hm] at hk
    have h2 := pk_in (ps.getD 1 0) (n := (all.size : Int) - firm.size) (by omega)
    refine ⟨((firm.size : Int) + pk (ps.getD 1 0) ((all.size : Int) - firm.size)).toNat, by omega, by omega, ?_⟩
    rw [hk]; rfl
  have hq : pk (ps.headD 0) 1 = 0 ∨ pk (ps.headD 0) 1 = 1 := by omega
  rcases hq with hq | hq
  · have hD : leftD F ps = [(sA, m)] := by unfold leftD; rw [hM, hf.firm, hf.since, hq]; rfl
    obtain ⟨k, e1, e2⟩ := crash_at hc hD 0 (by simp)
    obtain ⟨q, q1, q2, q3⟩ := ha k e2
    obtain ⟨g1, g2⟩ := hC.read okA (look_fst e1)
    have hL : L = [(sA, k)] := by
      have hl := hc.len
      rw [hD] at hl
      match L, hl, e1 with
      | [x], _, e1 => simp at e1; rw [e1]
    have hno : look L sB = none := by
      rw [hL]; show (if sA = sB then some k else none) = none
      rw [if_neg (by decide)]
    exact ⟨g1, ⟨q, q1, q2, g2.trans q3⟩, .inl ⟨hq, (hC.read_no okB hno).1⟩⟩
  · have hD : leftD F ps = [(sA, m), (sB, n)] := by
      unfold leftD; rw [hM, hf.firm, hf.since, hq]
      show insD [(sA, m)] sB n = _
      unfold insD
      rw [if_neg (by decide), if_neg (by decide)]; rfl
    obtain ⟨k, e1, e2⟩ := crash_at hc hD 0 (by simp)
    obtain ⟨k2, e3, e4⟩ := crash_at hc hD 1 (by simp)
    obtain ⟨q, q1, q2, q3⟩ := ha k e2
    obtain ⟨g1, g2⟩ := hC.read okA (look_fst e1)
    obtain ⟨g3, g4⟩ := hC.read okB (look_snd e1 (show sA ≠ sB by decide) e3)
    exact ⟨g1, ⟨q, q1, q2, g2.trans q3⟩, .inr ⟨hq, g3, g4.trans (cut_of hn e4)⟩⟩
set_option maxRecDepth 100000 in
set_option maxHeartbeats 4000000 in
theorem lasts_law (v0 v1 v2 : Value) (la lb : List ByteArray) (ps : List Int) (w : World) (h0 : rdRow w 1 v0 la.length (encT la)) (h1 : rdRow w 1 v1 lb.length (encT lb)) (hla : la.length ≤ maxLen) (hlb : lb.length ≤ maxLen) (hv : rdRow w 1 v2 ps.length (encI ps)) (hps : ∀ x ∈ ps, I64 x) (hpl : ps.length ≤ maxLen) :
    Calls Try.prog 3 #[v0, v1, v2] w fun e w' => e = .returned (.bool true) ∧ Gr w w' := by
  obtain ⟨a0, k0, rfl, hk0, _⟩ := rdS_at h0
  obtain ⟨a1, k1, rfl, hk1, _⟩ := rdS_at h1
  obtain ⟨a2, k2, rfl, hk2, _⟩ := rd_at hv
  have HV := Lib.hid (And.intro hv (And.intro hps hpl)); have H0 := Lib.hid h0; have H1 := Lib.hid h1
  unfold maxLen at hla hlb hpl
  clear hv hps h0 h1
  go_enter Try.func3, Try.ntmps3
  go_wp2_with fail
  refine (awake_calls _).mono ?_
  rintro e w1 ⟨rfl, hg1⟩
  have G1 := Lib.hid hg1
  clear hg1
  go_wp2_with fail
  refine (wnew 100000 _).mono ?_
  rintro e w2 ⟨p, rfl, hw, hg⟩
  have HO := Lib.hid (One.new hw hg G1.out)
  have F0 := Lib.hid (show FS (newF 100000) [] [] [] 100000 from FS.new 100000)
  clear hw hg G1
  generalize newF 100000 = Fa at *
  go_wp2_with fail
  refine (HO.out.create (by rw [F0.out.since]; simp) sA (by decide)).mono ?_
  rintro e w3 ⟨rfl, h3⟩
  have hk : okC Fa sA := F0.out.okc okA rfl (by decide)
  rw [F0.out.free.createE hk]
  obtain ⟨m, h3⟩ : ∃ m, One w w3 p (createF Fa sA m) := by
    rcases h3 with ⟨_, m, _, h3⟩ | ⟨hno, _⟩
    · exact ⟨m, h3⟩
    · exact absurd hk hno
  have f1 := F0.out.create (s := sA) m
  have H3 := Lib.hid h3
  have F1 := Lib.hid (show FS (createF Fa sA m) [(sA, m)] [] [.cre sA m] 100000 ∧ (createF Fa sA m).fl m = ⟨⟨#[]⟩, 0⟩ from ⟨f1.1, f1.2.1⟩)
  clear h3 hk HO F0 f1
  generalize createF Fa sA m = Fb at *
  go_wp2_with fail
  refine H3.out.sdir.mono ?_
  rintro e w4 ⟨rfl, h4⟩
  have f2 := F1.out.1.sdir
  rw [f2.1]
  have H4 := Lib.hid h4
  have F2 := Lib.hid (show Fa1 m ⟨#[]⟩ 0 (sdirF Fb) from ⟨f2.2.1, by rw [f2.2.2]; exact F1.out.2⟩)
  clear h4 H3 F1 f2
  generalize sdirF Fb = Fc at *
  go_wp2_with fail
  go_loopw [9, 10] (fun sv iv wr => ∃ (i : Nat) (s : ByteArray) (F : Fd), i ≤ la.length ∧ i ≤ 5 ∧ iv = .int .i64 i ∧ sv = .string s ∧ s.size ≤ 100 * i ∧ Hid (One w wr p F) ∧ Hid (Fa1 m s 0 F)) (fun _ iv _ => la.length - (intOf iv).toNat)
  case atStart => exact ⟨0, ⟨#[]⟩, Fc, Nat.zero_le _, Nat.zero_le _, rfl, rfl, Nat.zero_le _, H4, F2⟩
  case round =>
    obtain ⟨i, s, F, hi1, hi2, rfl, rfl, hs, HF, HA⟩ := hrel
    by_cases hlt : i < la.length ∧ i < 5
    · obtain ⟨hl1, hl2⟩ := hlt
      have hl1' : (i : Int) < la.length := by omega
      have hl2' : (i : Int) < 5 := by omega
      obtain ⟨_, _, e0, _, hx⟩ := rdS_at (H0.out.gr HF.out.gr)
      injection e0 with e01 e02 e03
      obtain ⟨b0, o0, ea, hc⟩ := hx (by omega)
      rw [← e01] at ea
      subst ea
      have hci := hc i hl1
      clear hc hx e01 e03 e02
      go_wp2_with fail
      refine (short_calls _ 100 (by decide) _).mono ?_
      rintro e w' ⟨t, rfl, ht, rfl⟩
      go_wp2_with fail
      refine (HF.out.append sA t (by decide) (by omega)).mono ?_
      rintro e w5 ⟨rfl, h5⟩
      have F5 := Lib.hid (HA.out.app (t := t) (by omega))
      have H5 := Lib.hid h5
      clear h5
      go_wp2_with fail
      go_roundw
      case rel => exact ⟨i + 1, s ++ t, _, by omega, by omega, by go_num, rfl, by rw [ByteArray.size_append]; omega, H5, F5⟩
      case measure => simp [intOf]; omega
    · have hex : (¬ (i : Int) < la.length) ∨ ((i : Int) < la.length ∧ ¬ (i : Int) < 5) := by omega
      rcases hex with hex | ⟨hex, hex2⟩
      all_goals
        clear hlt
        go_wp2_with fail
        refine (HF.out.sync sA (by decide)).mono ?_
        rintro e w5 ⟨rfl, h5⟩
        have f3 := HA.out.1.sync okA (n := m) rfl
        rw [f3.1]
        have hs0 : s.size ≤ 500 := by omega
        have F5 := Lib.hid (show Fa1 m s s.size (syncF F sA) from ⟨f3.2.1, by rw [f3.2.2.1, HA.out.2]⟩)
        have H5 := Lib.hid h5
        clear h5 f3 hs hi1 hi2 HA HF H4 F2
        generalize syncF F sA = Fe at *
        go_wp2_with fail
        go_loopw [12, 13] (fun sv iv wr => ∃ (i : Nat) (u : ByteArray) (F : Fd), i ≤ lb.length ∧ i ≤ 5 ∧ iv = .int .i64 i ∧ sv = .string u ∧ u.size ≤ 500 + 100 * i ∧ s.size ≤ u.size ∧ Hid (One w wr p F) ∧ Hid (Fa1 m u s.size F)) (fun _ iv _ => lb.length - (intOf iv).toNat)
        case atStart => exact ⟨0, s, Fe, Nat.zero_le _, Nat.zero_le _, rfl, rfl, by omega, Nat.le_refl _, H5, F5⟩
        case round =>
          obtain ⟨i, u, F, hi1, hi2, rfl, rfl, hu, hsu, HF, HA⟩ := hrel
          by_cases hlt : i < lb.length ∧ i < 5
          · obtain ⟨hl1, hl2⟩ := hlt
            have hl1' : (i : Int) < lb.length := by omega
            have hl2' : (i : Int) < 5 := by omega
            obtain ⟨_, _, e0, _, hx⟩ := rdS_at (H1.out.gr HF.out.gr)
            injection e0 with e01 e02 e03
            obtain ⟨b0, o0, ea, hc⟩ := hx (by omega)
            rw [← e01] at ea
            subst ea
            have hci := hc i hl1
            clear hc hx e01 e03 e02
            go_wp2_with fail
            refine (short_calls _ 100 (by decide) _).mono ?_
            rintro e w' ⟨t, rfl, ht, rfl⟩
            go_wp2_with fail
            refine (HF.out.append sA t (by decide) (by omega)).mono ?_
            rintro e w5 ⟨rfl, h5⟩
            have F5 := Lib.hid (HA.out.app (t := t) (by omega))
            have H5 := Lib.hid h5
            clear h5
            go_wp2_with fail
            go_roundw
            case rel => exact ⟨i + 1, u ++ t, _, by omega, by omega, by go_num, rfl, by rw [ByteArray.size_append]; omega, by rw [ByteArray.size_append]; omega, H5, F5⟩
            case measure => simp [intOf]; omega
          · have hex : (¬ (i : Int) < lb.length) ∨ ((i : Int) < lb.length ∧ ¬ (i : Int) < 5) := by omega
            rcases hex with hex | ⟨hex, hex2⟩
            all_goals
              clear hlt
              go_wp2_with fail
              refine (HF.out.create (by rw [HA.out.1.since]; simp) sB (by decide)).mono ?_
              rintro e w5 ⟨rfl, h5⟩
              have hk : okC F sB := HA.out.1.okc okB (by show (if sA = sB then some m else none) = none; rw [if_neg (by decide)]) (show (1 : Nat) < 64 by decide)
              obtain ⟨n, hn, h5⟩ : ∃ n, ¬ F.has n ∧ One w w5 p (createF F sB n) := by
                rcases h5 with ⟨_, n, hm, h3⟩ | ⟨hno, _⟩
                · exact ⟨n, hm, h3⟩
                · exact absurd hk hno
              have hmn : m ≠ n := fun z => hn (by subst z; exact .inl ⟨sA, by rw [HA.out.1.now]; exact List.mem_singleton.2 rfl⟩)
              have f5 := HA.out.1.create (s := sB) n
              have hins : insD [(sA, m)] sB n = [(sA, m), (sB, n)] := by
                unfold insD
                rw [if_neg (by decide), if_neg (by decide)]; rfl
              rw [hins] at f5
              have H5 := Lib.hid h5; have HM := Lib.hid hmn
              have F5 := Lib.hid (show FS (createF F sB n) [(sA, m), (sB, n)] [(sA, m)] [.cre sB n] 100000 ∧ (createF F sB n).fl n = ⟨⟨#[]⟩, 0⟩ ∧ (createF F sB n).fl m = ⟨u, s.size⟩ from ⟨f5.1, f5.2.1, by rw [f5.2.2 m hmn]; exact HA.out.2⟩)
              clear h5 hk hn hmn f5 hins HF HA
              generalize createF F sB n = Ff at *
              go_wp2_with fail
              refine (H5.out.append sB sWord (by decide) (by decide)).mono ?_
              rintro e w6 ⟨rfl, h6⟩
              have f6 := F5.out.1.app (t := sWord) okB (n := n) (by show (if sA = sB then some m else if sB = sB then some n else none) = some n; rw [if_neg (by decide), if_pos rfl]) (by
                have : sizes Ff.fl [(sA, m), (sB, n)] = u.size + (0 + 0) := by unfold sizes; simp only [List.map_cons, List.map_nil, List.sum_cons, List.sum_nil, F5.out.2.1, F5.out.2.2]; rfl
                rw [this]; show ((u.size + (0 + 0) : Nat) : Int) + 3 ≤ _; omega)
              rw [F5.out.2.1] at f6
              have H6 := Lib.hid h6
              have F6 := Lib.hid (show FS (appF Ff sB sWord) [(sA, m), (sB, n)] [(sA, m)] [.cre sB n] 100000 ∧ (appF Ff sB sWord).fl n = ⟨sWord, 0⟩ ∧ (appF Ff sB sWord).fl m = ⟨u, s.size⟩ from ⟨f6.2.1, by rw [f6.2.2.1, empty_app], by rw [f6.2.2.2 m HM.out]; exact F5.out.2.2⟩)
              clear h6 H5 F5 f6
              generalize appF Ff sB sWord = Fg at *
              go_wp2_with fail
              refine (H6.out.sync sB (by decide)).mono ?_
              rintro e w7 ⟨rfl, h7⟩
              have f7 := F6.out.1.sync okB (n := n) (by show (if sA = sB then some m else if sB = sB then some n else none) = some n; rw [if_neg (by decide), if_pos rfl])
              rw [F6.out.2.1] at f7
              have H7 := Lib.hid h7
              have F7 := Lib.hid (show Fa2 s u (syncF Fg sB) from ⟨hsu, m, n, f7.2.1, by rw [f7.2.2.2 m HM.out]; exact F6.out.2.2, f7.2.2.1⟩)
              have HS7 := Lib.hid (show (syncF Fg sB).since.length ≤ 1000 by rw [f7.2.1.since]; simp)
              clear h7 H6 F6 f7 HM
              generalize syncF Fg sB = Fh at *
              go_upto_if 89 with (fail)
              obtain ⟨x, hx⟩ : ∃ x, ps.headD 0 = x := ⟨_, rfl⟩
              have hxi : I64 x := by
                subst hx
                cases ps with
                | nil => unfold I64; decide
                | cons y r => exact HV.out.2.1 y (List.mem_cons_self ..)
              go_cut [15] (fun v wx => v = .int .i64 x ∧ w7 = wx)
              case first =>
                by_cases hp : 0 < ps.length
                · obtain ⟨_, _, e0, _, hq⟩ := rd_at (HV.out.1.gr H7.out.gr)
                  injection e0 with e01 e02 e03
                  obtain ⟨b0, o0, ea, hc⟩ := hq hp
                  rw [← e01] at ea
                  subst ea
                  have hci := hc 0 hp
                  rw [Nat.add_zero, show ps[0] = x by rw [← hx]; cases ps with | nil => cases hp | cons y r => rfl] at hci
                  have hp' : (0 : Int) < (ps.length : Int) := by omega
                  clear hc hq e01 e02 e03
                  go_wp2_with fail
                  all_goals (go_meet; exact ⟨rfl, rfl⟩)
                · have hp' : ¬ (0 : Int) < (ps.length : Int) := by omega
                  have hx0 : x = 0 := by rw [← hx]; cases ps with | nil => rfl | cons y r => exact absurd (Nat.succ_pos _) hp
                  subst hx0
                  go_wp2_with fail
                  all_goals (go_meet; exact ⟨rfl, rfl⟩)
              case rest =>
                obtain ⟨rfl, rfl⟩ := hcut
                go_upto_if 94 with (fail)
                have hxw : I64 x := hxi
                unfold I64 at hxw
                have hpk : pk x 1 = (if x < 0 then -(x + 1) else x).tmod 2 := rfl
                go_cut [15] (fun v wx => ∃ y : Int, v = .int .i64 y ∧ y.tmod 2 = pk x 1 ∧ w7 = wx)
                case first =>
                  by_cases hneg : x < 0
                  · have hw1 : IntKind.i64.wrap (x + 1) = x + 1 := wrap_id (by unfold I64; omega)
                    have hw2 : IntKind.i64.wrap (-(x + 1)) = -(x + 1) := wrap_id (by unfold I64; omega)
                    rw [if_pos hneg] at hpk
                    have HPk := Lib.hid hpk
                    clear hpk
                    go_wp2_with fail
                    all_goals (go_meet; exact ⟨-(x + 1), rfl, HPk.out.symm, rfl⟩)
                  · rw [if_neg hneg] at hpk
                    have HPk := Lib.hid hpk
                    clear hpk
                    go_wp2_with fail
                    all_goals (go_meet; exact ⟨x, rfl, HPk.out.symm, rfl⟩)
                case rest =>
                  obtain ⟨y, rfl, hy, rfl⟩ := hcut
                  rw [← hx] at hy
                  clear hpk hxw hxi hx
                  have HY := Lib.hid hy
                  clear hy
                  go_wp2_with fail
                  refine (H7.out.crash HS7.out _ ps (HV.out.1.gr H7.out.gr) HV.out.2.1 HV.out.2.2).mono ?_
                  rintro e w8 ⟨rfl, L, fl, hc, h8⟩
                  obtain ⟨g1, ⟨q, q1, q2, q3⟩, g2⟩ := F7.out.crash hc
                  rw [← HY.out] at g2
                  have H8 := Lib.hid h8
                  have G2 := Lib.hid g2
                  clear h8 hc H7 HS7 F7 g2 HY
                  generalize crashF Fh L fl = Fz at *
                  go_wp2_with fail
                  refine (H8.out.read sA (by decide)).mono ?_
                  rintro e w9 ⟨rfl, h9⟩
                  have H9 := Lib.hid h9
                  rw [g1, q3]
                  clear h9 g1 q3 H8
                  obtain ⟨r, hr⟩ : ∃ r, u.extract 0 q = r := ⟨_, rfl⟩
                  have hrs : r.size = q := by rw [← hr, ByteArray.size_extract]; omega
                  rw [hr]
                  have hr2 : u.extract 0 r.size = r := by rw [hrs]; exact hr
                  go_wp2_with fail
                  refine (H9.out.read sB (by decide)).mono ?_
                  rintro e w10 ⟨rfl, h10⟩
                  have G10 := Lib.hid h10.gr
                  clear h10 H9
                  have q1' : (s.size : Int) ≤ r.size := by omega
                  have q2' : (r.size : Int) ≤ u.size := by omega
                  have HR := Lib.hid hr2
                  clear hrs hr hr2 q1 q2
                  rcases G2.out with ⟨y0, g3⟩ | ⟨y1, g3, g4⟩
                  · rw [g3]
                    have hyb : (y.tmod 2 == 1) = false := by rw [y0]; rfl
                    clear G2 g3 y0
                    generalize readB Fz sB = t at *
                    go_wp2_with fail
                    all_goals (first | (exfalso; rename_i hz; exact hz (by rw [HR.out])) | (go_ret; exact ⟨(by first | rfl | trivial), G10.out⟩))
                  · rw [g3, g4]
                    have hyb : (y.tmod 2 == 1) = true := by rw [y1]; rfl
                    clear G2 g3 g4 y1
                    go_wp2_with fail
                    all_goals (first | (exfalso; rename_i hz; exact hz (by rw [HR.out])) | (go_ret; exact ⟨(by first | rfl | trivial), G10.out⟩))
end Go.Proofs.Ytdopmcepfacdlaa
