/- The stable sort, walked: the whole of it. -/
import Derived.Test.YtpnpnjfflblkpaaStF
import Derived.Test.YtpnpnjfflblkpaaLd
import Derived.Test.YtpnpnjfflblkpaaUs
import Derived.Test.YtpnpnjfflblkpaaPtE
namespace Go.Proofs.Ytpnpnjfflblkpaa
open Go.Shelf Go.RowKit Go.Lib Go.Sort

theorem ptC_len6 (x : Pt) : (ptC x).length = 6 := rfl
theorem ptC_one6 (x : Pt) : ∀ v ∈ ptC x, v.oneCell' = true := by
  intro v hv
  simp only [List.mem_cons, List.not_mem_nil, or_false] at hv
  rcases hv with rfl | rfl | rfl | rfl | rfl | rfl <;> rfl
theorem sizeP6 (w : World) : (Go.sizeOf 26).run Try.prog w = .ok 6 w := Try.sizeOf26 w
abbrev plV : Value := .func (.func 61) #[] #[]
theorem eg_place : ∀ args w, (callFunc 61 args).run Try.prog w = .ok (.enter 61 args) w := enters_of Try.func61 (by kernel_rfl) rfl
theorem cmp_place (blk off size : Nat) (w : World) : CmpLays Try.prog 61 #[] (fun x => ptC x) 6 cmpB blk off size w := fun _ _ _ _ x y => place_calls x y _
abbrev HasP (w0 : World) (blk off : Nat) (l : List Pt) (w : World) : Prop := HasL (fun x => ptC x) 6 w0 blk off l w
/-- A part is sorted by insertion. -/
theorem inss_calls (blk off cap : Nat) (d0 : Array Pt) (w0 w : World) (R0 : RowK (fun x => ptC x) 6 w0 blk off d0) (hsz : d0.size ≤ 1000000) (L U R : List Pt) (h : HasP w0 blk off (L ++ U ++ R) w) (hl : L.length + U.length + R.length = d0.size) (a b : Nat) (ha : a = L.length) (hb : b = L.length + U.length) :
    Calls Try.prog 88 #[.slice (some ⟨blk, off, none⟩) d0.size cap, .int .i64 a, .int .i64 b, plV] w fun e w' => e = .returned (.tuple #[]) ∧ ∃ T, SrtB T ∧ Stab U T ∧ HasP w0 blk off (L ++ T ++ R) w' := by
  obtain ⟨d, hd, S⟩ := h
  have hs : d.size = d0.size := by
    have := congrArg List.length hd
    simp at this; omega
  have hc := AnyQ.insertionSortCmpFunc insS 6 Try.isAgg26 sizeP6 (fun x => ptC x) ptC_len6 ptC_one6 cmpB 61 #[] blk off cap a b d w eg_place (cmp_place blk off d.size w) (S.holds R0.hblk R0.hH hs) (S.lt R0.hblk) (by omega) (by omega) (by omega)
  change Calls Try.prog 88 _ _ _ at hc
  rw [hs] at hc
  refine hc.mono ?_
  rintro e w' ⟨rfl, n, os, rfl⟩
  obtain ⟨T, hT, hsT, hst⟩ := insertion_list hd ha hb
  refine ⟨rfl, T, hsT, hst, _, hT, S.on R0.hblk n _ os ?_⟩
  have h1 := congrArg List.length hT
  have h2 := congrArg List.length hd
  have h3 := hst.len
  simp at h1 h2; omega
/-- What the stable sort leaves. -/
def StPost (w0 : World) (blk off : Nat) (l : List Pt) (e : Ending) (w' : World) : Prop := e = .returned (.tuple #[]) ∧ ∃ T, SrtB T ∧ Stab l T ∧ HasP w0 blk off T w'
/-- Sorted ahead, by blocks, and the rest as it was. -/
def Ahead (w0 : World) (blk off : Nat) (l : List Pt) (n a : Nat) (w : World) : Prop := ∃ (q : Nat) (X Y : List Pt), X.length = q * (2 * n) ∧ X.length = a ∧ BlkB (2 * n) X ∧ BlkB n Y ∧ Stab l (X ++ Y) ∧ HasP w0 blk off (X ++ Y) w
def Blocks (w0 : World) (blk off : Nat) (l : List Pt) (n : Nat) (w : World) : Prop := ∃ Z : List Pt, BlkB n Z ∧ Stab l Z ∧ HasP w0 blk off Z w
def Runs (w0 : World) (blk off : Nat) (l : List Pt) (a : Nat) (w : World) : Prop := ∃ (q : Nat) (X : List Pt), X.length = q * 20 ∧ X.length = a ∧ BlkB 20 X ∧ Stab (l.take a) X ∧ HasP w0 blk off (X ++ l.drop a) w
theorem Runs.next {w0 : World} {blk off : Nat} {l : List Pt} {a : Nat} {w' : World} {q : Nat} {X T : List Pt} (hX : X.length = q * 20) (ha : X.length = a) (hb : BlkB 20 X) (hs : Stab (l.take a) X) (hl : a + 20 ≤ l.length) (hT : SrtB T) (hst : Stab ((l.drop a).take 20) T) (h : HasP w0 blk off (X ++ T ++ (l.drop a).drop 20) w') : Runs w0 blk off l (a + 20) w' := by
  have hlT : T.length = 20 := by rw [hst.len, List.length_take, List.length_drop]; omega
  refine ⟨q + 1, X ++ T, by rw [List.length_append]; omega, by rw [List.length_append]; omega, hb.app hX (by decide) hT, ?_, by rw [List.drop_drop] at h; exact h⟩
  have e : l.take (a + 20) = l.take a ++ (l.drop a).take 20 := by rw [List.take_add]
  rw [e]
  exact hs.app hst
theorem Runs.last {w0 : World} {blk off : Nat} {l : List Pt} {a : Nat} {w' : World} {q : Nat} {X T : List Pt} (hX : X.length = q * 20) (hb : BlkB 20 X) (hs : Stab (l.take a) X) (hT : SrtB T) (hst : Stab (l.drop a) T) (h : HasP w0 blk off (X ++ T ++ []) w') : Blocks w0 blk off l 20 w' := by
  refine ⟨X ++ T, hb.app hX (by decide) hT, ?_, by rw [List.append_nil] at h; exact h⟩
  have := hs.app hst
  rwa [List.take_append_drop] at this
theorem Ahead.next {w0 : World} {blk off : Nat} {l : List Pt} {n a : Nat} {w' : World} {q : Nat} {X Y T : List Pt} (hn : 0 < n) (hX : X.length = q * (2 * n)) (ha : X.length = a) (hb : BlkB (2 * n) X) (hy : BlkB n Y) (hs : Stab l (X ++ Y)) (hl : 2 * n ≤ Y.length) (hT : SrtB T) (hst : Stab (Y.take n ++ (Y.drop n).take n) T) (h : HasP w0 blk off (X ++ T ++ (Y.drop n).drop n) w') : Ahead w0 blk off l n (a + 2 * n) w' := by
  have hlT : T.length = 2 * n := by rw [hst.len, List.length_append, List.length_take, List.length_take, List.length_drop]; omega
  refine ⟨q + 1, X ++ T, (Y.drop n).drop n, by rw [List.length_append, Nat.add_mul]; omega, by rw [List.length_append]; omega, hb.app hX (by omega) hT, (hy.drop hn).drop hn, ?_, h⟩
  have e : Y = (Y.take n ++ (Y.drop n).take n) ++ (Y.drop n).drop n := by rw [List.append_assoc, List.take_append_drop, List.take_append_drop]
  refine hs.tr ?_
  have h2 := (Stab.rfl' (l := X)).app (hst.app (Stab.rfl' (l := (Y.drop n).drop n)))
  rw [← e, ← List.append_assoc] at h2
  exact h2
theorem Ahead.last {w0 : World} {blk off : Nat} {l : List Pt} {n : Nat} {w' : World} {q : Nat} {X Y T : List Pt} (hn : 0 < n) (hX : X.length = q * (2 * n)) (hb : BlkB (2 * n) X) (hs : Stab l (X ++ Y)) (hT : SrtB T) (hst : Stab Y T) (h : HasP w0 blk off (X ++ T) w') : Blocks w0 blk off l (2 * n) w' :=
  ⟨X ++ T, hb.app hX (by omega) hT, hs.tr ((Stab.rfl' (l := X)).app hst), h⟩
set_option maxHeartbeats 4000000 in
set_option maxRecDepth 1000000 in
theorem stable_calls (blk off cap : Nat) (d0 : Array Pt) (w0 : World) (R0 : RowK (fun x => ptC x) 6 w0 blk off d0) (hsz : d0.size ≤ 1000000) (l : List Pt) (hl : l.length = d0.size) (w : World) (h : HasP w0 blk off l w) :
    Calls Try.prog 78 #[.slice (some ⟨blk, off, none⟩) d0.size cap, .int .i64 d0.size, plV] w (StPost w0 blk off l) := by
  have HI := Lib.hid (fun (W : World) (L U R : List Pt) (h : HasP w0 blk off (L ++ U ++ R) W) (hl : L.length + U.length + R.length = d0.size) (a b : Nat) (ha : a = L.length) (hb : b = L.length + U.length) => inss_calls blk off cap d0 w0 W R0 hsz L U R h hl a b ha hb)
  have HS := Lib.hid (fun (L U V R : List Pt) (W : World) => symm_calls 6 sizeP6 (fun x => ptC x) blk off cap d0 w0 R0 hsz (cmp_place blk off d0.size w0) (U.length + V.length) L U V R W (Nat.le_refl _))
  have H0 := Lib.hid (show Runs w0 blk off l 0 w from ⟨0, [], rfl, rfl, BlkB.nil _, by simpa using Stab.rfl', by simpa using h⟩)
  have Hl := Lib.hid hl
  clear h hl R0
  obtain ⟨n, en⟩ : ∃ n, d0.size = n := ⟨_, rfl⟩
  rw [en] at hsz HI HS Hl ⊢
  clear en
  go_enter Try.func78, Try.ntmps78
  go_wp2_with fail
  go_loopw [7, 8] (fun av bv wr => ∃ a : Nat, av = .int .i64 a ∧ bv = .int .i64 ((a + 20 : Nat) : Int) ∧ a ≤ n ∧ Hid (Runs w0 blk off l a wr)) (fun av _ _ => n - (intOf av).toNat)
  case atStart => exact ⟨0, rfl, rfl, Nat.zero_le _, H0⟩
  case round =>
    clear H0
    obtain ⟨a, rfl, rfl, han, HR⟩ := hrel
    by_cases hlt : a + 20 ≤ n
    · have hlt' : ((a + 20 : Nat) : Int) ≤ n := by omega
      obtain ⟨q, X, hX, ha, hb, hs, hh⟩ := HR.out
      have HC := Lib.hid (HI.out wr X ((l.drop a).take 20) ((l.drop a).drop 20) (by rw [List.append_assoc, List.take_append_drop]; exact hh) (by have := Hl.out; simp only [List.length_take, List.length_drop]; omega) a (a + 20) ha.symm (by have := Hl.out; rw [List.length_take, List.length_drop]; omega))
      have HN := Lib.hid (fun (T : List Pt) (hT : SrtB T) (hst : Stab ((l.drop a).take 20) T) (w' : World) (h : HasP w0 blk off (X ++ T ++ (l.drop a).drop 20) w') => Runs.next hX ha hb hs (by have := Hl.out; omega) hT hst h)
      clear hX ha hb hs hh
      have hz : a ≤ n - 20 := by omega
      obtain ⟨z, ez⟩ : ∃ z, a + 20 = z := ⟨_, rfl⟩
      rw [ez] at HC HN hlt hlt' ⊢
      have EZ := Lib.hid ez
      clear ez
      go_wp2_with (go_at_call 88; refine HC.out.mono ?_; rintro e w2 ⟨rfl, T, hT, hst, h2⟩; have H2 := Lib.hid (HN.out T hT hst w2 h2); clear hT hst h2)
      go_roundw
      case rel => exact ⟨z, rfl, by go_num, hlt, H2⟩
      case measure => have := EZ.out; simp [intOf]; omega
    · have hlt' : ¬ ((a + 20 : Nat) : Int) ≤ n := by omega
      obtain ⟨q, X, hX, ha, hb, hs, hh⟩ := HR.out
      have HC := Lib.hid (HI.out wr X (l.drop a) [] (by rw [List.append_nil]; exact hh) (by have := Hl.out; rw [List.length_drop]; simp; omega) a n ha.symm (by have := Hl.out; rw [List.length_drop]; omega))
      have HN := Lib.hid (fun (T : List Pt) (hT : SrtB T) (hst : Stab (l.drop a) T) (w' : World) (h : HasP w0 blk off (X ++ T ++ []) w') => Runs.last hX hb hs hT hst h)
      clear hX ha hb hs hh HR hlt
      obtain ⟨z, ez⟩ : ∃ z, a + 20 = z := ⟨_, rfl⟩
      rw [ez] at hlt' ⊢
      clear ez
      go_wp2_with (go_at_call 88; refine HC.out.mono ?_; rintro e w2 ⟨rfl, T, hT, hst, h2⟩; have H2 := Lib.hid (HN.out T hT hst w2 h2); clear hT hst h2)
      clear HC HN
      obtain ⟨wo, rfl⟩ : ∃ wo : World, wo = wr := ⟨_, rfl⟩
      go_loopw [6, 7, 8, 9] (fun sv _ _ _ wr => ∃ bs : Nat, sv = .int .i64 bs ∧ 0 < bs ∧ (bs ≤ 20 ∨ bs ≤ 2 * n) ∧ Hid (Blocks w0 blk off l bs wr)) (fun sv _ _ _ _ => n - (intOf sv).toNat)
      case atStart => exact ⟨20, rfl, by decide, .inl (Nat.le_refl _), H2⟩
      case round =>
        clear H2
        obtain ⟨bs, rfl, hbs, hbs2, HB⟩ := hrel
        by_cases hlt : bs < n
        · have hltz : (bs : Int) < n := by omega
          have H3 := Lib.hid (show Ahead w0 blk off l bs 0 wr from by
            obtain ⟨Z, h1, h2, h3⟩ := HB.out
            exact ⟨0, [], Z, by simp, rfl, BlkB.nil _, h1, h2, h3⟩)
          clear HB
          obtain ⟨wb, rfl⟩ : ∃ wo : World, wo = wr := ⟨_, rfl⟩
          go_wp2_with fail
          go_loopw [7, 8] (fun av bv wr => ∃ a : Nat, av = .int .i64 a ∧ bv = .int .i64 ((a : Int) + 2 * bs) ∧ a ≤ n ∧ Hid (Ahead w0 blk off l bs a wr)) (fun av _ _ => n - (intOf av).toNat)
          case atStart => exact ⟨0, rfl, by congr 1; omega, Nat.zero_le _, H3⟩
          case round =>
            clear H3
            obtain ⟨a, rfl, rfl, han, HR⟩ := hrel
            by_cases hle : a + 2 * bs ≤ n
            · have hle' : (a : Int) + 2 * bs ≤ n := by omega
              obtain ⟨q, X, Y, hX, ha, hb, hy, hs, hh⟩ := HR.out
              have hlen := hs.len
              rw [List.length_append] at hlen
              have hYl : X.length + Y.length = n := by have := Hl.out; omega
              have e : Y = Y.take bs ++ (Y.drop bs).take bs ++ (Y.drop bs).drop bs := by rw [List.append_assoc, List.take_append_drop, List.take_append_drop]
              have HC := Lib.hid (HS.out X (Y.take bs) ((Y.drop bs).take bs) ((Y.drop bs).drop bs) wr (by rw [List.length_take]; omega) (by rw [List.length_take, List.length_drop]; omega) hy.take (hy.drop hbs).take (by simp only [List.length_take, List.length_drop]; omega) (by rw [List.append_assoc, List.append_assoc, List.take_append_drop, List.take_append_drop]; exact hh) a (a + bs) (a + 2 * bs) ha.symm (by rw [List.length_take]; omega) (by simp only [List.length_take, List.length_drop]; omega))
              have HN := Lib.hid (fun (T : List Pt) (hT : SrtB T) (hst : Stab (Y.take bs ++ (Y.drop bs).take bs) T) (w' : World) (h : HasP w0 blk off (X ++ T ++ (Y.drop bs).drop bs) w') => Ahead.next hbs hX ha hb hy hs (by omega) hT hst h)
              clear hX ha hb hy hs hh hlen hYl e HR
              have em : ((a + bs : Nat) : Int) = (a : Int) + bs := by omega
              have eb : ((a + 2 * bs : Nat) : Int) = (a : Int) + 2 * bs := by omega
              rw [em, eb] at HC
              clear em eb
              go_wp2_with (go_at_call 89; refine HC.out.mono ?_; rintro e w2 ⟨rfl, T, d2, h2, hT, hst, S2⟩; have H2 := Lib.hid (HN.out T hT hst w2 ⟨d2, h2, S2⟩); clear hT hst h2 S2)
              go_roundw
              case rel => exact ⟨a + 2 * bs, by congr 1, by congr 1, hle, H2⟩
              case measure => simp [intOf]; omega
            · have hle' : ¬ (a : Int) + 2 * bs ≤ n := by omega
              obtain ⟨q, X, Y, hX, ha, hb, hy, hs, hh⟩ := HR.out
              have hlen := hs.len
              rw [List.length_append] at hlen
              have hYl : X.length + Y.length = n := by have := Hl.out; omega
              by_cases hm : a + bs < n
              · have hm' : (a : Int) + bs < n := by omega
                have HC := Lib.hid (HS.out X (Y.take bs) (Y.drop bs) [] wr (by rw [List.length_take]; omega) (by rw [List.length_drop]; omega) hy.take ((hy.drop hbs).all (by rw [List.length_drop]; omega)) (by simp only [List.length_take, List.length_drop, List.length_nil]; omega) (by rw [List.append_nil, List.append_assoc, List.take_append_drop]; exact hh) a (a + bs) n ha.symm (by rw [List.length_take]; omega) (by simp only [List.length_take, List.length_drop]; omega))
                have HN := Lib.hid (fun (T : List Pt) (hT : SrtB T) (hst : Stab (Y.take bs ++ Y.drop bs) T) (w' : World) (h : HasP w0 blk off (X ++ T ++ []) w') => Ahead.last hbs hX hb hs hT (by rwa [List.take_append_drop] at hst) (by rwa [List.append_nil] at h))
                clear hX ha hb hy hs hh hlen hYl HR hle hm
                have em : ((a + bs : Nat) : Int) = (a : Int) + bs := by omega
                rw [em] at HC
                clear em
                go_wp2_with (go_at_call 89; refine HC.out.mono ?_; rintro e w2 ⟨rfl, T, d2, h2, hT, hst, S2⟩; have H2 := Lib.hid (HN.out T hT hst w2 ⟨d2, h2, S2⟩); clear hT hst h2 S2)
                go_roundw
                case rel => exact ⟨2 * bs, by congr 1; omega, by omega, by omega, H2⟩
                case measure => simp [intOf]; omega
              · have hm' : ¬ (a : Int) + bs < n := by omega
                have H2 := Lib.hid (show Blocks w0 blk off l (2 * bs) wr from Ahead.last hbs hX hb hs (hy.all (by omega)) Stab.rfl' hh)
                clear hX ha hb hy hs hh hlen hYl HR hle hm
                go_wp2_with fail
                go_roundw
                case rel => exact ⟨2 * bs, by congr 1; omega, by omega, by omega, H2⟩
                case measure => simp [intOf]; omega
        · have hltz : ¬ (bs : Int) < n := by omega
          obtain ⟨Z, h1, h2, h3⟩ := HB.out
          have HF := Lib.hid (show SrtB Z ∧ Stab l Z ∧ HasP w0 blk off Z wr from ⟨h1.all (by have := h2.len; have := Hl.out; omega), h2, h3⟩)
          clear h1 h2 h3
          go_wp2_with fail
          refine bodyPost_end (results_none rfl _ _ _) rfl ⟨rfl, Z, HF.out⟩
end Go.Proofs.Ytpnpnjfflblkpaa
