/- FilesFull: the walk. -/
import Derived.Test.YtdopmcepfacdlaaFeC
import Derived.Laws.IdiomStrings
namespace Go.Proofs.Ytdopmcepfacdlaa
open Go.RowKit Go.Maps

theorem conv_two (wr : World) (x y : Nat) (hx : x ≤ 100) (hy : y ≤ 100) : (convert 36 9 (.slice (some ⟨wr.heap.size, 0, none⟩) 2 2)).run Try.prog (wr.alloc (.cells #[.int .u8 (97 + (x : Int)), .int .u8 (97 + (y : Int))] 5)) = .ok (.string ⟨#[UInt8.ofNat (97 + x), UInt8.ofNat (97 + y)]⟩) (wr.alloc (.cells #[.int .u8 (97 + (x : Int)), .int .u8 (97 + (y : Int))] 5)) := by
  refine run_convert_bytes_back _ 36 9 5 ⟨wr.heap.size, 0, none⟩ 2 [UInt8.ofNat (97 + x), UInt8.ofNat (97 + y)] Try.underlying36 Try.underlying5 Try.underlying9 (fun j hj => ?_)
  have hb := heap_alloc_new wr (.cells #[.int .u8 (97 + (x : Int)), .int .u8 (97 + (y : Int))] 5)
  rw [Addr.add_mid]
  match j, hj with
  | 0, _ =>
    rw [cell_of_row _ _ 0 _ _ _ hb]
    have : (UInt8.ofNat (97 + x)).toNat = 97 + x := by rw [UInt8.toNat_ofNat']; omega
    show some _ = some (Value.int .u8 ((UInt8.ofNat (97 + x)).toNat : Int))
    rw [this]; simp
  | 1, _ =>
    rw [cell_of_row _ _ 1 _ _ _ hb]
    have : (UInt8.ofNat (97 + y)).toNat = 97 + y := by rw [UInt8.toNat_ofNat']; omega
    show some _ = some (Value.int .u8 ((UInt8.ofNat (97 + y)).toNat : Int))
    rw [this]; simp
theorem nm_cat (a b : UInt8) : (⟨#[102]⟩ : ByteArray) ++ (⟨#[a, b]⟩ : ByteArray) = ⟨#[102, a, b]⟩ := ByteArray.ext (by rw [ByteArray.data_append]; rfl)
set_option maxRecDepth 100000 in
set_option maxHeartbeats 4000000 in
theorem full_law (room many : Int) (v1 : Value) (lt : List ByteArray) (w : World) (h1 : rdRow w 1 v1 lt.length (encT lt)) (hlt : lt.length ≤ maxLen) :
    Calls Try.prog 4 #[.int .i64 room, v1, .int .i64 many] w fun e w' => e = .returned (.bool true) ∧ Gr w w' := by
  obtain ⟨a1, k1, rfl, hk1, _⟩ := rdS_at h1
  have H1 := Lib.hid h1
  unfold maxLen at hlt
  clear h1
  have hm1 : -100 ≤ room.tmod 101 ∧ room.tmod 101 ≤ 100 := by
    have h1 := Int.tmod_lt_of_pos room (b := 101) (by omega)
    have h2 := Int.lt_tmod_of_pos room (b := 101) (by omega)
    omega
  have hm2 : -79 ≤ many.tmod 80 ∧ many.tmod 80 ≤ 79 := by
    have h1 := Int.tmod_lt_of_pos many (b := 80) (by omega)
    have h2 := Int.lt_tmod_of_pos many (b := 80) (by omega)
    omega
  obtain ⟨m, hm⟩ : ∃ m, room.tmod 101 = m := ⟨_, rfl⟩
  rw [hm] at hm1
  obtain ⟨q, hq⟩ : ∃ q, many.tmod 80 = q := ⟨_, rfl⟩
  rw [hq] at hm2
  go_enter Try.func4, Try.ntmps4
  go_wp2_with fail
  refine (awake_calls _).mono ?_
  rintro e w1 ⟨rfl, hg1⟩
  have G1 := Lib.hid hg1
  clear hg1
  go_upto_if 23 with (fail)
  go_cut [8] (fun v wx => ∃ k : Int, 0 ≤ k ∧ k ≤ 100 ∧ v = .int .i64 k ∧ w1 = wx)
  case first =>
    by_cases hneg : m < 0
    · have hw : IntKind.i64.wrap (-m) = -m := by simp [IntKind.wrap, IntKind.bits, IntKind.signed]; omega
      go_wp2_with fail
      all_goals (go_meet; exact ⟨-m, by omega, by omega, rfl, rfl⟩)
    · go_wp2_with fail
      all_goals (go_meet; exact ⟨m, by omega, by omega, rfl, rfl⟩)
  case rest =>
    obtain ⟨n, hn0, hn1, rfl, rfl⟩ := hcut
    clear hm1 hm m
    go_upto_if 29 with (fail)
    go_cut [9] (fun v wx => ∃ k : Nat, k < 80 ∧ v = .int .i64 k ∧ w1 = wx)
    case first =>
      by_cases hneg : q < 0
      · have hw : IntKind.i64.wrap (-q) = -q := by simp [IntKind.wrap, IntKind.bits, IntKind.signed]; omega
        go_wp2_with fail
        all_goals (go_meet; exact ⟨(-q).toNat, by omega, by congr 1; omega, rfl⟩)
      · go_wp2_with fail
        all_goals (go_meet; exact ⟨q.toNat, by omega, by congr 1; omega, rfl⟩)
    case rest =>
      obtain ⟨k, hk, rfl, rfl⟩ := hcut
      clear hm2 hq q
      go_wp2_with fail
      refine (wnew n _).mono ?_
      rintro e w2 ⟨p, rfl, hw, hg⟩
      have hroom : roomF n = n := by unfold roomF mn mx; repeat (first | split | omega)
      have HO := Lib.hid (One.new hw hg G1.out)
      have F0 := Lib.hid (show Fls 0 n (newF n) by have := Fls.new n; rwa [hroom] at this)
      clear hw hg G1 hroom
      generalize newF n = Fa at *
      go_wp2_with fail
      go_loopw [11] (fun iv wr => ∃ (i : Nat) (F : Fd), i ≤ k ∧ iv = .int .i64 i ∧ Hid (One w wr p F) ∧ Hid (Fls i n F)) (fun iv _ => k - (intOf iv).toNat)
      case atStart => exact ⟨0, Fa, Nat.zero_le _, rfl, HO, F0⟩
      case round =>
        obtain ⟨i, F, hi, rfl, HF, HA⟩ := hrel
        by_cases hlt : i < k
        · have hlt' : (i : Int) < k := by omega
          have hq26 : (i : Int).tdiv 26 = ((i / 26 : Nat) : Int) := by rw [Int.tdiv_eq_ediv_of_nonneg (by omega)]; rfl
          have hr26 : (i : Int).tmod 26 = ((i % 26 : Nat) : Int) := by rw [Int.tmod_eq_emod_of_nonneg (by omega)]; rfl
          have hb1 : i / 26 ≤ 3 := by omega
          have hb2 : i % 26 ≤ 25 := by omega
          obtain ⟨x, hx⟩ : ∃ x, i / 26 = x := ⟨_, rfl⟩
          obtain ⟨y, hy⟩ : ∃ y, i % 26 = y := ⟨_, rfl⟩
          rw [hx] at hq26 hb1
          rw [hy] at hr26 hb2
          have hw1 : IntKind.i64.wrap (97 + (x : Int)) = 97 + (x : Int) := by simp [IntKind.wrap, IntKind.bits, IntKind.signed]; omega
          have hw2 : IntKind.i64.wrap (97 + (y : Int)) = 97 + (y : Int) := by simp [IntKind.wrap, IntKind.bits, IntKind.signed]; omega
          have hw3 : IntKind.u8.wrap (97 + (x : Int)) = 97 + (x : Int) := by simp [IntKind.wrap, IntKind.bits, IntKind.signed]; omega
          have hw4 : IntKind.u8.wrap (97 + (y : Int)) = 97 + (y : Int) := by simp [IntKind.wrap, IntKind.bits, IntKind.signed]; omega
          have hcv := conv_two wr x y (by omega) (by omega)
          have hnm : (⟨#[102]⟩ : ByteArray) ++ (⟨#[97 + UInt8.ofNat x, 97 + UInt8.ofNat y]⟩ : ByteArray) = nm i := by
            rw [nm_cat]; unfold nm; rw [hx, hy]; simp
          have HNm := Lib.hid hnm
          clear hnm hx hy
          go_wp2_with fail
          rw [HNm.out]
          have h2 := HF.out.grow (Gr.al Gr.rfl' (.cells #[.int .u8 (97 + (x : Int)), .int .u8 (97 + (y : Int))] 5))
          refine (h2.create HA.out.since (nm i) (show 3 ≤ maxLen by decide)).mono ?_
          rintro e w3 ⟨rfl, h3⟩
          by_cases h64 : i < 64
          · have h64' : (i : Int) < 64 := by omega
            obtain ⟨hok, hE⟩ := HA.out.ok h64
            rw [hE]
            obtain ⟨z, hz, h3⟩ : ∃ z, ¬ F.has z ∧ One w w3 p (createF F (nm i) z) := by
              rcases h3 with ⟨_, z, hz, h3⟩ | ⟨hno, _⟩
              · exact ⟨z, hz, h3⟩
              · exact absurd hok hno
            have H3 := Lib.hid h3; have F3 := Lib.hid (HA.out.add h64 hz)
            clear h3 hz hok hE h2 hcv hw1 hw2 hw3 hw4 hq26 hr26
            go_wp2_with fail
            go_roundw
            case rel => exact ⟨i + 1, _, by omega, by go_num, H3, F3⟩
            case measure => simp [intOf]; omega
          · have h64' : ¬ (i : Int) < 64 := by omega
            obtain ⟨hok, hE, hF⟩ := HA.out.full (by omega) (by omega)
            rw [hE]
            have H3 : Hid (One w w3 p F) := by
              rcases h3 with ⟨hk, _⟩ | ⟨_, h3⟩
              · exact absurd hk hok
              · exact Lib.hid h3
            have F3 := Lib.hid hF
            clear h3 hok hE hF h2 hcv hw1 hw2 hw3 hw4 hq26 hr26
            go_wp2_with fail
            go_roundw
            case rel => exact ⟨i + 1, _, by omega, by go_num, H3, F3⟩
            case measure => simp [intOf]; omega
        · have hge : ¬ (i : Int) < k := by omega
          obtain rfl : i = k := by omega
          go_wp2_with fail
          refine (HF.out.create HA.out.since sFaa (by decide)).mono ?_
          rintro e w3 ⟨rfl, h3⟩
          obtain ⟨m, G, hG, hO⟩ : ∃ m G, Fs2 m ⟨#[]⟩ n G ∧ One w w3 p G := by
            by_cases hi0 : 0 < i
            · obtain ⟨⟨m, hm⟩, hno⟩ := HA.out.two hi0 HF.out.ok.nrise
              rcases h3 with ⟨hk, _⟩ | ⟨_, h3⟩
              · exact absurd hk hno
              · exact ⟨m, F, hm, h3⟩
            · obtain rfl : i = 0 := by omega
              obtain ⟨hok, _⟩ := HA.out.ok (by omega)
              rcases h3 with ⟨_, z, hz, h3⟩ | ⟨hno, _⟩
              · obtain ⟨⟨m, hm⟩, _⟩ := (HA.out.add (by omega) hz).two (by omega) h3.ok.nrise
                exact ⟨m, _, hm, h3⟩
              · exact absurd hok hno
          have H3 := Lib.hid hO; have F3 := Lib.hid hG
          clear h3 hO hG HF HA
          generalize createE F sFaa = E0 at *
          go_wp2_with fail
          go_loopw [13, 14] (fun sv iv wr => ∃ (i : Nat) (b : ByteArray) (F : Fd), i ≤ lt.length ∧ i ≤ 20 ∧ iv = .int .i64 i ∧ sv = .string b ∧ b.size ≤ 60 * i ∧ Hid (One w wr p F) ∧ Hid (Fs2 m b n F)) (fun _ iv _ => lt.length - (intOf iv).toNat)
          case atStart => exact ⟨0, ⟨#[]⟩, G, Nat.zero_le _, Nat.zero_le _, rfl, rfl, Nat.zero_le _, H3, F3⟩
          case round =>
            obtain ⟨j, b, F, hj1, hj2, rfl, rfl, hb, HF, HA⟩ := hrel
            by_cases hlt : j < lt.length ∧ j < 20
            · obtain ⟨hl1, hl2⟩ := hlt
              have hl1' : (j : Int) < lt.length := by omega
              have hl2' : (j : Int) < 20 := by omega
              obtain ⟨_, _, e0, _, hx⟩ := rdS_at (H1.out.gr HF.out.gr)
              injection e0 with e01 e02 e03
              obtain ⟨b0, o0, ea, hc⟩ := hx (by omega)
              rw [← e01] at ea
              subst ea
              have hci := hc j hl1
              clear hc hx e01 e03 e02
              go_wp2_with fail
              refine (short_calls _ 60 (by decide) _).mono ?_
              rintro e w' ⟨t, rfl, ht, rfl⟩
              go_wp2_with fail
              refine (HF.out.append sFaa t (by decide) (by omega)).mono ?_
              rintro e w5 ⟨rfl, h5⟩
              have hws : IntKind.i64.wrap ((b.size : Int) + (t.size : Int)) = (b.size : Int) + (t.size : Int) := wrap_id (by unfold I64; omega)
              by_cases hfit : (b.size : Int) + (t.size : Int) ≤ n
              · obtain ⟨hE, hF⟩ := HA.out.app hfit
                rw [hE]
                have H5 := Lib.hid h5; have F5 := Lib.hid hF
                clear h5 hE hF
                generalize appF F sFaa t = F' at *
                have hsz : (b ++ t).size = b.size + t.size := ByteArray.size_append
                have HSz := Lib.hid hsz
                clear hsz
                go_wp2_with fail
                refine (H5.out.read sFaa (by decide)).mono ?_
                rintro e w6 ⟨rfl, h6⟩
                obtain ⟨r1, r2, r3, r4⟩ := F5.out.read
                rw [r1, r2]
                have hup := h6.ok.up r4
                have H6 := Lib.hid h6; have HU := Lib.hid hup; have HR := Lib.hid r3
                clear h6 r1 r2 r3 r4 hup
                go_wp2_with fail
                refine (H6.out.used HU.out).mono ?_
                rintro e w7 ⟨rfl, h7⟩
                rw [HR.out]
                have H7 := Lib.hid h7
                clear h7
                go_wp2_with fail
                refine ⟨⟨j + 1, b ++ t, F', by omega, by omega, by go_num, rfl, by rw [HSz.out]; omega, H7, F5⟩, ?_⟩
                simp [intOf]; omega
              · obtain ⟨hE, hF⟩ := HA.out.full hfit
                rw [hE]
                rw [hF] at h5
                have H5 := Lib.hid h5
                clear h5 hE hF
                go_wp2_with fail
                refine (H5.out.read sFaa (by decide)).mono ?_
                rintro e w6 ⟨rfl, h6⟩
                obtain ⟨r1, r2, r3, r4⟩ := HA.out.read
                rw [r1, r2]
                have hup := h6.ok.up r4
                have H6 := Lib.hid h6; have HU := Lib.hid hup; have HR := Lib.hid r3
                clear h6 r1 r2 r3 r4 hup
                go_wp2_with fail
                refine (H6.out.used HU.out).mono ?_
                rintro e w7 ⟨rfl, h7⟩
                rw [HR.out]
                have H7 := Lib.hid h7
                clear h7
                go_wp2_with fail
                refine ⟨⟨j + 1, b, F, by omega, by omega, by go_num, rfl, by omega, H7, HA⟩, ?_⟩
                simp [intOf]; omega
            · have hex : (¬ (j : Int) < lt.length) ∨ ((j : Int) < lt.length ∧ ¬ (j : Int) < 20) := by omega
              rcases hex with hex | ⟨hex, hex2⟩
              all_goals
                clear hlt
                go_wp2_with fail
                go_ret
                exact ⟨(by first | rfl | trivial), HF.out.gr⟩
end Go.Proofs.Ytdopmcepfacdlaa
