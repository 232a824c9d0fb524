/- Package files: Crash: the walk. -/
import Derived.Test.YtdopmcepfacdlaaFdQ
namespace Go.Proofs.Ytdopmcepfacdlaa
open Go.RowKit Go.Maps
attribute [local go_sem] max2_mx min2_mn max_two' min_two'

theorem PickAt.gr {w w' : World} {bp : Nat} {l : List Int} (h : PickAt w bp l) (hg : Gr w w') : PickAt w' bp l := by
  obtain ⟨v, h1, h2⟩ := h
  exact ⟨v, h1.bt (Bt.of (X := fun _ => False) hg) (fun z => z), h2.gr hg⟩
theorem PickAt.kd {w : World} {bp : Nat} {l : List Int} (h : PickAt w bp l) : Kd w bp 23 := by
  obtain ⟨v, h1, _⟩ := h; exact h1.kd
theorem PickAt.turn {w w' : World} {bp b : Nat} {l : List Int} (h : PickAt w bp l) {es : Array MapEntry} {c : Nat} (hm : w.heap[b]? = some (.map es c)) (hg : w.grownBy w' (some b)) : PickAt w' bp l :=
  h.bt (Y := fun k => k = b) (Bt.row hg rfl) (fun z => by subst z; exact h.kd.no hm) (fun v hv => by
    obtain ⟨v', h1, h2⟩ := h
    have : v = v' := by have e : box w bp v _ := hv; unfold box at e h1; rw [h1] at e; injection e with e; injection e with e; simp at e; exact e.symm
    subst this
    exact rdX_kind h2 (fun k z o i e => by subst z; unfold World.cell? at e; rw [hm] at e; simp at e))
set_option maxRecDepth 100000 in
set_option maxHeartbeats 8000000 in
theorem crash_calls (X : Nat → Prop) (w : World) (p : Nat) (F : Fd) (h : FdAt X w p F) (hcan : Can F.firm F.since) (hlen : ∀ i, i ≤ F.since.length → (runs F.firm (F.since.take i)).length ≤ 64) (hsl : F.since.length ≤ 1000)
    (hfl : ∀ n, F.has n → 0 ≤ (F.fl n).sy ∧ (F.fl n).sy ≤ (F.fl n).b.size ∧ (F.fl n).b.size ≤ 1099511627776) (v : Value) (ps : List Int) (hv : rdRow w 1 v ps.length (encI ps)) (hps : ∀ x ∈ ps, I64 x) (hpl : ps.length ≤ maxLen) :
    Calls Try.prog 17 #[.pointer (some ⟨p, 0, none⟩), v] w (CrashPost X w p F ps) := by
  obtain ⟨nb, fb, sv, vs, e1, d1, x1, x2, x3, x4, r1, x5, rs1⟩ := h.opened
  obtain ⟨c0, c1, c2, c3, c4, c5, c6⟩ := fd_cells e1
  obtain ⟨sa, sc, rfl⟩ := own_slice r1
  obtain ⟨va, vc, rfl, _⟩ := rd_at hv
  have C1 := Lib.hid (fun W (hg : Gr w W) => keepc hg c1); have C2 := Lib.hid (fun W (hg : Gr w W) => keepc hg c2)
  have HC := Lib.hid (fun W (hg : Gr w W) => clone_calls W fb F.firm (rs1.firm.gr hg))
  have E1 := Lib.hid e1; have X12 := Lib.hid (And.intro x1 x2); have R1 := Lib.hid r1; have RS1 := Lib.hid rs1; have HF := Lib.hid h; have HV := Lib.hid hv; have HPs := Lib.hid (And.intro hps hpl)
  have HCan := Lib.hid hcan; have HLen := Lib.hid hlen; have HFl := Lib.hid hfl
  have qm : ∀ (w : World) (r : Option Nat), (binOp .eql 61 (.map r) (.map none)).run Try.prog w = .ok (.bool r.isNone) w := fun w r => run_eql_map_nil w _ _ _ r Try.underlying61
  have hmm : ∀ w, (Instr.makeMap 61 none).run Try.prog w = .ok (.map (some w.heap.size)) (w.alloc (.map #[] 0)) := fun w => by simp [Instr.makeMap]
  clear h e1 d1 x1 x2 x3 x4 r1 x5 rs1 c0 c1 c2 c3 c4 c5 c6 hv hps hpl hcan hlen hfl
  go_enter Try.func17, Try.ntmps17
  go_wp2_with fail
  obtain ⟨W1, e1, g1, b1, s1⟩ := al_out w (.cells #[.slice va ps.length vc] 23)
  rw [e1]
  obtain ⟨bp, eA⟩ : ∃ A, w.heap.size = A := ⟨_, rfl⟩
  rw [eA] at b1 s1 ⊢
  have G1 := Lib.hid g1; have B1 := Lib.hid (show PickAt W1 bp ps from ⟨_, b1, HV.out.gr g1⟩); have EA := Lib.hid eA
  have c1 := C1.out W1 g1
  clear g1 b1 s1 e1 eA
  go_step3
  go_upto_if 22 with (go_at_call 44; refine (HC.out _ G1.out).mono ?_; rintro e w2 ⟨mb, rfl, hd2, hm2, hn2, hg2⟩)
  have HD2 := Lib.hid hd2; have HM2 := Lib.hid hm2; have HG2 := Lib.hid hg2
  clear hd2 hm2 hn2 hg2 c1
  go_cut [5] (fun v wx => ∃ b, v = .map (some b) ∧ Hid (DirAt wx (some b) F.firm ∧ w.heap.size ≤ b ∧ Gr W1 wx))
  case first =>
    cases mb with
    | none =>
      have hf0 : F.firm = [] := by
        rcases HD2.out.2.2 with ⟨_, e⟩ | ⟨_, _, e, _⟩
        · exact e
        · cases e
      have HF0 := Lib.hid hf0
      clear hf0
      go_wp2_with fail
      go_meet
      have hsz : w.heap.size ≤ w2.heap.size := (G1.out.tr HG2.out).size
      exact ⟨w2.heap.size, rfl, Lib.hid ⟨by rw [HF0.out]; exact DirAt.made w2, hsz, Gr.al HG2.out _⟩⟩
    | some b =>
      have hsz : w.heap.size ≤ b := Nat.le_trans G1.out.size (HM2.out b rfl).1
      have HSz := Lib.hid hsz
      clear hsz
      go_wp2_with fail
      go_meet
      exact ⟨b, rfl, Lib.hid ⟨HD2.out, HSz.out, HG2.out⟩⟩
  case rest =>
    obtain ⟨b, rfl, HB⟩ := hcut
    clear HD2 HM2 HG2 HC
    have hm0 := pk_rng (ps.headD 0) (n := (F.since.length : Int)) (by omega)
    have hmany : ((manyF F ps : Nat) : Int) = pk (ps.headD 0) F.since.length := by unfold manyF; omega
    have HL := Lib.hid (show leftD F ps = runs F.firm (F.since.take (manyF F ps)) from rfl)
    have hmle : manyF F ps ≤ F.since.length := by omega
    generalize manyF F ps = many at *
    have HP1 := Lib.hid (B1.out.gr HB.out.2.2)
    have c2 := C2.out _ (G1.out.tr HB.out.2.2)
    have hnx := next_calls _ bp ps HP1.out HPs.out.1 HPs.out.2 F.since.length ⟨by omega, by omega⟩
    rw [← hmany] at hnx
    have HNx := Lib.hid hnx
    clear hnx hmany hm0
    go_wp2_with fail
    refine HNx.out.mono ?_
    rintro e w4 ⟨rfl, hpk, hb4⟩
    have hG4 : Gr w w4 := hb4.gr (G1.out.tr HB.out.2.2) (fun k z => by subst z; rw [EA.out]; exact Nat.le_refl _)
    have HD4 := Lib.hid (show DirAt w4 (some b) (runs F.firm (F.since.take 0)) from HB.out.1.btk hb4 (fun k z => by subst z; exact HP1.out.kd))
    have HPk4 := Lib.hid hpk; have HBz := Lib.hid HB.out.2.1
    have c2 := C2.out w4 hG4
    have HG4 := Lib.hid hG4
    have hrow := rdRow_of_own R1.out
    have HRow := Lib.hid hrow
    clear hG4 hpk hb4 hrow HB HNx HP1
    go_wp2_with fail
    go_step3
    go_wp2_with fail
    go_loopw [7, 8, 36] (fun _ _ iv wr => ∃ i : Nat, i ≤ many ∧ iv = .int .i64 i ∧ Gr w wr ∧ Hid (DirAt wr (some b) (runs F.firm (F.since.take i))) ∧ Hid (PickAt wr bp ps.tail)) (fun _ _ iv _ => many - (intOf iv).toNat)
    case atStart => exact ⟨0, Nat.zero_le _, rfl, HG4.out, HD4, HPk4⟩
    case round =>
      obtain ⟨i, hi, rfl, hg, hD, hPk⟩ := hrel
      by_cases him : i < many
      · have hil : i < F.since.length := by omega
        have h1 : (i : Int) < (F.since.length : Int) := by omega
        have h2 : (0 : Int) ≤ (i : Int) := by omega
        have hne : ((i : Int) == (many : Int)) = false := by rw [beq_eq_false_iff_ne]; omega
        obtain ⟨_, sa', sc', es1, _, hrw⟩ := HRow.out
        injection es1 with es2 es3 es4
        subst es2
        clear es3 es4
        obtain ⟨sb, so, rfl, hcl⟩ := hrw (by omega)
        obtain ⟨cv, hcv1, hcv2⟩ := RS1.out.cl i hil
        have ci := keepc hg (hcl i cv hcv1)
        have hlenR := HLen.out i (by omega)
        have hcan := HCan.out.at i hil
        have hclW := hcv2.bt (Bt.of (X := fun _ => False) hg) (fun k z => z.elim)
        obtain ⟨o, ho⟩ : ∃ o, F.since[i] = o := ⟨_, rfl⟩
        rw [ho] at hclW hcan
        clear hcl hcv1 hcv2 hrw
        cases o with
        | cre s0 n0 =>
          obtain ⟨h20, bx, bn, rfl, _, _, g1, g2⟩ := hclW
          obtain ⟨w9, hcp⟩ : ∃ W : World, True := ⟨wr, trivial⟩
          go_wp2_with fail
          refine (cre1_calls wr b _ hD.out (by omega) s0 n0 h20 bx bn g1 g2).mono ?_
          rintro e w8 ⟨rfl, hd8, hg8⟩
          have hG8 : Gr w w8 := gr_gb hg hg8 (fun j hj => by injection hj with hj; have := HBz.out; omega)
          obtain ⟨es, cc, hm⟩ := hD.out.map
          have HPk8 := Lib.hid (hPk.out.turn hm hg8)
          have HD8 := Lib.hid (show DirAt w8 (some b) (runs F.firm (F.since.take (i + 1))) by rw [runs_take hil, ho]; exact hd8)
          clear hd8 hg8 hm hcp
          go_wp2_with fail
          go_roundw
          case rel => exact ⟨i + 1, by omega, by go_num, hG8, HD8, HPk8⟩
          case measure => simp [intOf]; omega
        | del s0 =>
          obtain ⟨h20, bn, rfl, _, g2⟩ := hclW
          obtain ⟨w9, hcp⟩ : ∃ W : World, True := ⟨wr, trivial⟩
          go_wp2_with fail
          refine (del1_calls wr b _ hD.out s0 h20 bn g2).mono ?_
          rintro e w8 ⟨rfl, hd8, hg8⟩
          have hG8 : Gr w w8 := gr_gb hg hg8 (fun j hj => by injection hj with hj; have := HBz.out; omega)
          obtain ⟨es, cc, hm⟩ := hD.out.map
          have HPk8 := Lib.hid (hPk.out.turn hm hg8)
          have HD8 := Lib.hid (show DirAt w8 (some b) (runs F.firm (F.since.take (i + 1))) by rw [runs_take hil, ho]; exact hd8)
          clear hd8 hg8 hm hcp
          go_wp2_with fail
          go_roundw
          case rel => exact ⟨i + 1, by omega, by go_num, hG8, HD8, HPk8⟩
          case measure => simp [intOf]; omega
        | ren s0 t0 =>
          obtain ⟨h20, h21, bn, bt, rfl, _, _, g1, g2⟩ := hclW
          obtain ⟨w9, hcp⟩ : ∃ W : World, True := ⟨wr, trivial⟩
          go_wp2_with fail
          refine (ren1_calls wr b _ hD.out (by omega) s0 t0 h20 h21 bn bt g1 g2 hcan).mono ?_
          rintro e w8 ⟨rfl, hd8, hg8⟩
          have hG8 : Gr w w8 := gr_gb hg hg8 (fun j hj => by injection hj with hj; have := HBz.out; omega)
          obtain ⟨es, cc, hm⟩ := hD.out.map
          have HPk8 := Lib.hid (hPk.out.turn hm hg8)
          have HD8 := Lib.hid (show DirAt w8 (some b) (runs F.firm (F.since.take (i + 1))) by rw [runs_take hil, ho]; exact hd8)
          clear hd8 hg8 hm hcp
          go_wp2_with fail
          go_roundw
          case rel => exact ⟨i + 1, by omega, by go_num, hG8, HD8, HPk8⟩
          case measure => simp [intOf]; omega
      · obtain rfl : i = many := by omega
        have HDL := Lib.hid (show DirAt wr (some b) (leftD F ps) by rw [HL.out]; exact hD.out)
        by_cases hil : i < F.since.length
        · have h1 : (i : Int) < (F.since.length : Int) := by omega
          have h2 : (0 : Int) ≤ (i : Int) := by omega
          obtain ⟨_, sa', sc', es1, _, hrw⟩ := HRow.out
          injection es1 with es2 es3 es4
          subst es2
          clear es3 es4
          obtain ⟨sb, so, rfl, hcl⟩ := hrw (by omega)
          obtain ⟨cv, hcv1, hcv2⟩ := RS1.out.cl i hil
          have ci := keepc hg (hcl i cv hcv1)
          clear hcl hcv1 hcv2 hrw
          obtain ⟨L, eL⟩ : ∃ L, leftD F ps = L := ⟨_, rfl⟩
          have hL64 : L.length ≤ 64 := by rw [← eL, HL.out]; exact HLen.out _ hmle
          have hids : ∀ x ∈ L, F.has x.2 := fun x hx => by
            rw [← eL, HL.out] at hx
            rcases runs_ids (t := x.1) (n := x.2) hx with h | ⟨s, h⟩
            · exact .inr (.inl h)
            · exact .inr (.inr ⟨s, List.mem_of_mem_take h⟩)
          rw [eL] at HDL
          have EL := Lib.hid eL; have HIds := Lib.hid hids; have HPk5 := hPk
          clear hids eL hD hPk HLen HCan HRow
          go_wp2_with fail
          refine (mkeys_calls (some b) wr).mono ?_
          rintro e w5 ⟨rfl, rfl⟩
          go_wp2_with fail
          refine (sorted_calls wr (some b) L HDL.out (by omega)).mono ?_
          rintro e w6 ⟨v6, rfl, ho6, hg6⟩
          have hrg : Gr wr w6 := (Gr.al Gr.rfl' (.cells #[.map (some b)] 61)).tr hg6
          have hG6 := hg.tr hrg
          have HG6 := Lib.hid hG6; have HD6 := Lib.hid (HDL.out.gr hrg); have HPk6 := Lib.hid (show PickAt w6 bp (ps.drop (1 + 0)) by rw [List.drop_one]; exact HPk5.out.gr hrg); have HO6 := Lib.hid (own_mono ho6 hg.size)
          obtain ⟨v6a, v6c, rfl⟩ := own_slice ho6
          clear hrg hG6 ho6 hg6 HDL HPk5
          go_wp2_with fail
          go_loopw [10, 11, 12, 52] (fun _ _ _ jv wx => ∃ (j : Nat) (M : Dir), j ≤ L.length ∧ jv = .int .i64 j ∧ Gr w wx ∧ Hid (DirAt wx (some b) M) ∧ Hid (CutTo F ps w wx L M j) ∧ Hid (PickAt wx bp (ps.drop (1 + j))) ∧ Hid (wx.ownsRow w.heap.size 9 1 (.slice v6a L.length v6c) L.length (L.map fun x => .string x.1))) (fun _ _ _ jv _ => L.length - (intOf jv).toNat)
          case atStart => exact ⟨0, L, Nat.zero_le _, rfl, HG6.out, HD6, Lib.hid (CutTo.start F ps w w6 L), HPk6, HO6⟩
          case round =>
            obtain ⟨j, M, hj, rfl, hgx, hDx, hCx, hPx, hOx⟩ := hrel
            have HGx := Lib.hid hgx
            clear hgx
            by_cases hjl : j < L.length
            · have g1 : (j : Int) < (L.length : Int) := by omega
              have g2 : (0 : Int) ≤ (j : Int) := by omega
              have hjM : j < M.length := by rw [hCx.out.len]; exact hjl
              obtain ⟨_, a6, cc6, e6, _, hrw6⟩ := rdRow_of_own hOx.out
              injection e6 with e61 e62 e63
              subst e61
              obtain ⟨nb6, no6, rfl, hc6⟩ := hrw6 (by omega)
              have cn := hc6 j (.string L[j].1) (by simp [hjl])
              have hnm := hCx.out.name j hjl hjM
              have hol := hCx.out.old j hjl hjM (Nat.le_refl _)
              have hlk := hDx.out.look1 (s := L[j].1) (by have := hDx.out.2.1 M[j] (List.getElem_mem hjM); rw [hnm] at this; unfold maxLen; omega)
              have hs20 : L[j].1.size ≤ 20 := by have := hDx.out.2.1 M[j] (List.getElem_mem hjM); rw [hnm] at this; exact this
              have hlk2 : look M L[j].1 = some L[j].2 := look_of hDx.out.1 (by rw [← hnm, ← hol]; exact List.getElem_mem hjM)
              rw [hlk2, ptr_some] at hlk
              have hfl := (RS1.out.files L[j].2 (HIds.out _ (List.getElem_mem hjl)))
              have hfx := HGx.out.blk hfl.2
              have hrg := HFl.out L[j].2 (HIds.out _ (List.getElem_mem hjl))
              have hins := ins_set hDx.out.1 j hjM
              have hstep := fun (wy : World) n hk hn hx => hCx.out.step (wy := wy) (n := n) hjl hjM hk hn hx
              rw [hnm] at hins hstep
              obtain ⟨nm, enm⟩ : ∃ nm, L[j].1 = nm := ⟨_, rfl⟩
              obtain ⟨n0, en0⟩ : ∃ n0, L[j].2 = n0 := ⟨_, rfl⟩
              rw [enm] at cn hlk hs20 hins hstep
              rw [en0] at hlk hfx hrg hstep
              obtain ⟨x, ex⟩ : ∃ x, F.fl n0 = x := ⟨_, rfl⟩
              rw [ex] at hfx hrg hstep
              have HIns := Lib.hid hins; have HStep := Lib.hid hstep; have HFx := Lib.hid hfx; have HRg := Lib.hid hrg; have HS20 := Lib.hid hs20
              unfold adr at hlk
              have hpkr := pk_rng (ps.getD (1 + j) 0) (n := (x.b.size : Int) - x.sy) (by omega)
              obtain ⟨q, hq⟩ : ∃ q, pk (ps.getD (1 + j) 0) ((x.b.size : Int) - x.sy) = q := ⟨_, rfl⟩
              rw [hq] at hpkr HStep
              have hwr1 : IntKind.i64.wrap ((x.b.size : Int) - x.sy) = (x.b.size : Int) - x.sy := wrap_id (by unfold I64; omega)
              have hwr2 : IntKind.i64.wrap (x.sy + q) = x.sy + q := wrap_id (by unfold I64; omega)
              have hdr : (ps.drop (1 + j)).headD 0 = ps.getD (1 + j) 0 := by rw [List.headD_eq_head?_getD, List.head?_drop]; simp [List.getD]
              have hdt : (ps.drop (1 + j)).tail = ps.drop (1 + (j + 1)) := by rw [List.tail_drop]; rfl
              have HQ := Lib.hid (And.intro hdr (And.intro hdt hq))
              have hi2 : (0 : Int) ≤ x.sy + q := by omega
              have hi3 : x.sy + q ≤ (x.b.size : Int) := by omega
              clear e62 e63 hrw6 hc6 hnm hol hlk2 hfl hins hstep hfx hs20 enm en0 ex hq hdr hdt
              go_upto_region 17 with (at_lookup; refine wpList_look1 _ rfl _ _ 61 rfl (some b) rfl _ rfl _ hlk ?_)
              refine region_start (S := fun w' => w'.heap[n0]? = some (.cells #[.string x.b, .int .i64 x.sy] 70 (0, 0))) (by kernel_rfl) (by exact (Gr.dr Gr.rfl').blk HFx.out) (fun wz hz0 hHeld => ?_)
              simp only [List.size_toArray, List.length_cons, List.length_nil, Nat.reduceAdd]
              refine wpAnyH_take (i := 0) (oi := ?_) (v := ?_) ?_ (by kernel_rfl) (by kernel_rfl) (by kernel_rfl) ?_ ?_ (by assumption) ?_; rotate_left 2; (focus (simp only [List.getElem?_toArray, List.getElem?_cons_zero]; rfl)); (focus (exact fun _ _ _ h => h)); first | (focus (refine Or.inl ⟨by rfl, ?_⟩; intro w hSw; (try dsimp only at hSw); (try dsimp only [Array.getD]); go_simp; (try with_reducible rfl))) | (focus (refine Or.inr ⟨by rfl, ?_⟩; rfl)) | fail "op 0"
              try simp only [Act.put, List.setIfInBounds_toArray, List.set_cons_zero, List.set_cons_succ]
              refine wpAnyH_take (i := 1) (oi := ?_) (v := ?_) ?_ (by kernel_rfl) (by kernel_rfl) (by kernel_rfl) ?_ ?_ (by assumption) ?_; rotate_left 2; (focus (simp only [List.getElem?_toArray, List.getElem?_cons_succ, List.getElem?_cons_zero]; rfl)); (focus (exact fun _ _ _ h => h)); first | (focus (refine Or.inl ⟨by rfl, ?_⟩; intro w hSw; (try dsimp only at hSw); (try dsimp only [Array.getD]); go_simp; (try with_reducible rfl))) | (focus (refine Or.inr ⟨by rfl, ?_⟩; rfl)) | fail "op 1"
              try simp only [Act.put, List.setIfInBounds_toArray, List.set_cons_zero, List.set_cons_succ]
              refine wpAnyH_take (i := 2) (oi := ?_) (v := ?_) ?_ (by kernel_rfl) (by kernel_rfl) (by kernel_rfl) ?_ ?_ (by assumption) ?_; rotate_left 2; (focus (simp only [List.getElem?_toArray, List.getElem?_cons_succ, List.getElem?_cons_zero]; rfl)); (focus (exact fun _ _ _ h => h)); first | (focus (refine Or.inl ⟨by rfl, ?_⟩; intro w hSw; (try dsimp only at hSw); (try dsimp only [Array.getD]); go_simp; (try with_reducible rfl))) | (focus (refine Or.inr ⟨by rfl, ?_⟩; rfl)) | fail "op 2"
              try simp only [Act.put, List.setIfInBounds_toArray, List.set_cons_zero, List.set_cons_succ]
              refine wpAnyH_take (i := 3) (oi := ?_) (v := ?_) ?_ (by kernel_rfl) (by kernel_rfl) (by kernel_rfl) ?_ ?_ (by assumption) ?_; rotate_left 2; (focus (simp only [List.getElem?_toArray, List.getElem?_cons_succ, List.getElem?_cons_zero]; rfl)); (focus (exact fun _ _ _ h => h)); first | (focus (refine Or.inl ⟨by rfl, ?_⟩; intro w hSw; (try dsimp only at hSw); have c1 := (cell_of_row w n0 1 _ _ _ hSw).trans rfl; (try dsimp only [Array.getD]); go_simp; (try with_reducible rfl))) | (focus (refine Or.inr ⟨by rfl, ?_⟩; rfl)) | fail "op 3"
              try simp only [Act.put, List.setIfInBounds_toArray, List.set_cons_zero, List.set_cons_succ]
              refine wpAnyH_take (i := 4) (oi := ?_) (v := ?_) ?_ (by kernel_rfl) (by kernel_rfl) (by kernel_rfl) ?_ ?_ (by assumption) ?_; rotate_left 2; (focus (simp only [List.getElem?_toArray, List.getElem?_cons_succ, List.getElem?_cons_zero]; rfl)); (focus (exact fun _ _ _ h => h)); first | (focus (refine Or.inl ⟨by rfl, ?_⟩; intro w hSw; (try dsimp only at hSw); (try dsimp only [Array.getD]); go_simp; (try with_reducible rfl))) | (focus (refine Or.inr ⟨by rfl, ?_⟩; rfl)) | fail "op 4"
              try simp only [Act.put, List.setIfInBounds_toArray, List.set_cons_zero, List.set_cons_succ]
              refine wpAnyH_take (i := 5) (oi := ?_) (v := ?_) ?_ (by kernel_rfl) (by kernel_rfl) (by kernel_rfl) ?_ ?_ (by assumption) ?_; rotate_left 2; (focus (simp only [List.getElem?_toArray, List.getElem?_cons_succ, List.getElem?_cons_zero]; rfl)); (focus (exact fun _ _ _ h => h)); first | (focus (refine Or.inl ⟨by rfl, ?_⟩; intro w hSw; (try dsimp only at hSw); (try dsimp only [Array.getD]); go_simp; (try with_reducible rfl))) | (focus (refine Or.inr ⟨by rfl, ?_⟩; rfl)) | fail "op 5"
              try simp only [Act.put, List.setIfInBounds_toArray, List.set_cons_zero, List.set_cons_succ]
              refine wpAnyH_take (i := 6) (oi := ?_) (v := ?_) ?_ (by kernel_rfl) (by kernel_rfl) (by kernel_rfl) ?_ ?_ (by assumption) ?_; rotate_left 2; (focus (simp only [List.getElem?_toArray, List.getElem?_cons_succ, List.getElem?_cons_zero]; rfl)); (focus (exact fun _ _ _ h => h)); first | (focus (refine Or.inl ⟨by rfl, ?_⟩; intro w hSw; (try dsimp only at hSw); (try dsimp only [Array.getD]); go_simp; (try with_reducible rfl))) | (focus (refine Or.inr ⟨by rfl, ?_⟩; rfl)) | fail "op 6"
              try simp only [Act.put, List.setIfInBounds_toArray, List.set_cons_zero, List.set_cons_succ]
              refine wpAnyH_take (i := 7) (oi := ?_) (v := ?_) ?_ (by kernel_rfl) (by kernel_rfl) (by kernel_rfl) ?_ ?_ (by assumption) ?_; rotate_left 2; (focus (simp only [List.getElem?_toArray, List.getElem?_cons_succ, List.getElem?_cons_zero]; rfl)); (focus (exact fun _ _ _ h => h)); first | (focus (refine Or.inl ⟨by rfl, ?_⟩; intro w hSw; (try dsimp only at hSw); (try dsimp only [Array.getD]); go_simp; (try with_reducible rfl))) | (focus (refine Or.inr ⟨by rfl, ?_⟩; rfl)) | fail "op 7"
              try simp only [Act.put, List.setIfInBounds_toArray, List.set_cons_zero, List.set_cons_succ]
              refine wpAnyH_take (i := 8) (oi := ?_) (v := ?_) ?_ (by kernel_rfl) (by kernel_rfl) (by kernel_rfl) ?_ ?_ (by assumption) ?_; rotate_left 2; (focus (simp only [List.getElem?_toArray, List.getElem?_cons_succ, List.getElem?_cons_zero]; rfl)); (focus (exact fun _ _ _ h => h)); first | (focus (refine Or.inl ⟨by rfl, ?_⟩; intro w hSw; (try dsimp only at hSw); have c0 := (cell_of_row w n0 0 _ _ _ hSw).trans rfl; (try dsimp only [Array.getD]); go_simp; (try with_reducible rfl))) | (focus (refine Or.inr ⟨by rfl, ?_⟩; rfl)) | fail "op 8"
              try simp only [Act.put, List.setIfInBounds_toArray, List.set_cons_zero, List.set_cons_succ]
              refine wpAnyH_take (i := 10) (oi := ?_) (v := ?_) ?_ (by kernel_rfl) (by kernel_rfl) (by kernel_rfl) ?_ ?_ (by assumption) ?_; rotate_left 2; (focus (simp only [List.getElem?_toArray, List.getElem?_cons_succ, List.getElem?_cons_zero]; rfl)); (focus (exact fun _ _ _ h => h)); first | (focus (refine Or.inl ⟨by rfl, ?_⟩; intro w hSw; (try dsimp only at hSw); (try dsimp only [Array.getD]); go_simp; (try with_reducible rfl))) | (focus (refine Or.inr ⟨by rfl, ?_⟩; rfl)) | fail "op 10"
              try simp only [Act.put, List.setIfInBounds_toArray, List.set_cons_zero, List.set_cons_succ]
              refine wpAnyH_take (i := 11) (oi := ?_) (v := ?_) ?_ (by kernel_rfl) (by kernel_rfl) (by kernel_rfl) ?_ ?_ (by assumption) ?_; rotate_left 2; (focus (simp only [List.getElem?_toArray, List.getElem?_cons_succ, List.getElem?_cons_zero]; rfl)); (focus (exact fun _ _ _ h => h)); first | (focus (refine Or.inl ⟨by rfl, ?_⟩; intro w hSw; (try dsimp only at hSw); (try dsimp only [Array.getD]); go_simp; (try with_reducible rfl))) | (focus (refine Or.inr ⟨by rfl, ?_⟩; rfl)) | fail "op 11"
              try simp only [Act.put, List.setIfInBounds_toArray, List.set_cons_zero, List.set_cons_succ]
              refine wpAnyH_take (i := 12) (oi := ?_) (v := ?_) ?_ (by kernel_rfl) (by kernel_rfl) (by kernel_rfl) ?_ ?_ (by assumption) ?_; rotate_left 2; (focus (simp only [List.getElem?_toArray, List.getElem?_cons_succ, List.getElem?_cons_zero]; rfl)); (focus (exact fun _ _ _ h => h)); first | (focus (refine Or.inl ⟨by rfl, ?_⟩; intro w hSw; (try dsimp only at hSw); (try dsimp only [Array.getD]); go_simp; (try with_reducible rfl))) | (focus (refine Or.inr ⟨by rfl, ?_⟩; rfl)) | fail "op 12"
              try simp only [Act.put, List.setIfInBounds_toArray, List.set_cons_zero, List.set_cons_succ]
              refine wpAnyH_take (i := 13) (oi := ?_) (v := ?_) ?_ (by kernel_rfl) (by kernel_rfl) (by kernel_rfl) ?_ ?_ (by assumption) ?_; rotate_left 2; (focus (simp only [List.getElem?_toArray, List.getElem?_cons_succ, List.getElem?_cons_zero]; rfl)); (focus (exact fun _ _ _ h => h)); first | (focus (refine Or.inl ⟨by rfl, ?_⟩; intro w hSw; (try dsimp only at hSw); have c1 := (cell_of_row w n0 1 _ _ _ hSw).trans rfl; (try dsimp only [Array.getD]); go_simp; (try with_reducible rfl))) | (focus (refine Or.inr ⟨by rfl, ?_⟩; rfl)) | fail "op 13"
              try simp only [Act.put, List.setIfInBounds_toArray, List.set_cons_zero, List.set_cons_succ]
              refine wpAnyH_ready (rs := [9]) (by kernel_rfl) (by simp) ?_
              refine AllReadyH.cons (o := ?_) ?_ (fun K hK => ?_) AllReadyH.nil; rotate_left; (focus (simp only [List.getElem?_toArray, List.getElem?_cons_succ, List.getElem?_cons_zero]; rfl))
              go_simp
              refine hK.out _ _ hHeld (fun hHeld => ?_)
              clear hK K
              try simp only [Act.put, List.setIfInBounds_toArray, List.set_cons_zero, List.set_cons_succ]
              refine wpAnyH_take (i := 14) (oi := ?_) (v := ?_) ?_ (by kernel_rfl) (by kernel_rfl) (by kernel_rfl) ?_ ?_ (by assumption) ?_; rotate_left 2; (focus (simp only [List.getElem?_toArray, List.getElem?_cons_succ, List.getElem?_cons_zero]; rfl)); (focus (exact fun _ _ _ h => h)); first | (focus (refine Or.inl ⟨by rfl, ?_⟩; intro w hSw; (try dsimp only at hSw); (try dsimp only [Array.getD]); go_simp; (try with_reducible rfl))) | (focus (refine Or.inr ⟨by rfl, ?_⟩; rfl)) | fail "op 14"
              try simp only [Act.put, List.setIfInBounds_toArray, List.set_cons_zero, List.set_cons_succ]
              refine wpAnyH_ready (rs := [15]) (by kernel_rfl) (by simp) ?_
              refine AllReadyH.cons (o := ?_) ?_ (fun K hK => ?_) AllReadyH.nil; rotate_left; (focus (simp only [List.getElem?_toArray, List.getElem?_cons_succ, List.getElem?_cons_zero]; rfl))
              go_simp
              refine (next_calls wz bp (ps.drop (1 + j)) (hPx.out.gr hz0) (fun y hy => HPs.out.1 y (List.mem_of_mem_drop hy)) (by have := HPs.out.2; rw [List.length_drop]; unfold maxLen at *; omega) ((x.b.size : Int) - x.sy) ⟨by omega, by omega⟩).mono ?_
              rintro e w7 ⟨rfl, hpk7, hb7⟩
              rw [HQ.out.1, HQ.out.2.2]
              have hf7 := (hb7.block n0 (blk_lt hHeld) (fun z => by subst z; have := (hPx.out.gr hz0).kd.one ⟨_, hHeld⟩; revert this; decide)).trans hHeld
              refine hK.out _ _ hf7 (fun hHeld => ?_)
              clear hK K
              try simp only [Act.put, List.setIfInBounds_toArray, List.set_cons_zero, List.set_cons_succ]
              refine wpAnyH_take (i := 16) (oi := ?_) (v := ?_) ?_ (by kernel_rfl) (by kernel_rfl) (by kernel_rfl) ?_ ?_ (by assumption) ?_; rotate_left 2; (focus (simp only [List.getElem?_toArray, List.getElem?_cons_succ, List.getElem?_cons_zero]; rfl)); (focus (exact fun _ _ _ h => h)); first | (focus (refine Or.inl ⟨by rfl, ?_⟩; intro w hSw; (try dsimp only at hSw); (try dsimp only [Array.getD]); go_simp; (try with_reducible rfl))) | (focus (refine Or.inr ⟨by rfl, ?_⟩; rfl)) | fail "op 16"
              try simp only [Act.put, List.setIfInBounds_toArray, List.set_cons_zero, List.set_cons_succ]
              refine wpAnyH_take (i := 17) (oi := ?_) (v := ?_) ?_ (by kernel_rfl) (by kernel_rfl) (by kernel_rfl) ?_ ?_ (by assumption) ?_; rotate_left 2; (focus (simp only [List.getElem?_toArray, List.getElem?_cons_succ, List.getElem?_cons_zero]; rfl)); (focus (exact fun _ _ _ h => h)); first | (focus (refine Or.inl ⟨by rfl, ?_⟩; intro w hSw; (try dsimp only at hSw); (try dsimp only [Array.getD]); go_simp; (try with_reducible rfl))) | (focus (refine Or.inr ⟨by rfl, ?_⟩; rfl)) | fail "op 17"
              try simp only [Act.put, List.setIfInBounds_toArray, List.set_cons_zero, List.set_cons_succ]
              refine wpAnyH_done (by kernel_rfl) ?_ _
              have hkp : ∀ (k : Nat) (o : Array Value), wr.heap[k]? = some (.cells o 70 (0, 0)) → w7.heap[k]? = some (.cells o 70 (0, 0)) := fun k o e => (hb7.block k (blk_lt (hz0.blk e)) (fun z => by subst z; have := (hPx.out.gr hz0).kd.one ⟨_, hz0.blk e⟩; revert this; decide)).trans (hz0.blk e)
              have kbp : ∀ k, k = bp → Kd wz k 23 := fun k z => by subst z; exact (hPx.out.gr hz0).kd
              have hd7 := (hDx.out.gr hz0).btk hb7 kbp
              have ho7 := own_bt (own_gr hOx.out hz0) hb7 (fun k e z => by have := (own_kd (own_gr hOx.out hz0) e).one (kbp k z); revert this; decide)
              have hG7 : Gr w w7 := hb7.gr (HGx.out.tr hz0) (fun k z => by subst z; rw [EA.out]; exact Nat.le_refl _)
              have g8 : Gr w7 (w7.alloc (.cells #[.string (x.b.extract 0 (x.sy + q).toNat), .int .i64 (x.sy + q)] 70)) := Gr.al Gr.rfl' _
              have b8 := heap_alloc_new w7 (.cells #[.string (x.b.extract 0 (x.sy + q).toNat), .int .i64 (x.sy + q)] 70)
              have hd8 := hd7.gr g8
              obtain ⟨es8, cc8, hm8⟩ := hd8.map
              obtain ⟨w9, hrun, hd9, hg9⟩ := hd8.store (by rw [hCx.out.len]; unfold maxLen; omega) HS20.out w7.heap.size
              rw [ptr_some] at hrun
              unfold adr at hrun
              have hpk9 := (hpk7.gr g8).turn hm8 hg9
              rw [HQ.out.2.1] at hpk9
              have kno : ∀ k T, Kd (w7.alloc (.cells #[.string (x.b.extract 0 (x.sy + q).toNat), .int .i64 (x.sy + q)] 70)) k T → ¬ k = b := fun k T hT z => by subst z; exact hT.no hm8
              have hb9 : Bt (fun k => k = b) (w7.alloc (.cells #[.string (x.b.extract 0 (x.sy + q).toNat), .int .i64 (x.sy + q)] 70)) w9 := Bt.row hg9 rfl
              have ho9 := own_bt (own_gr ho7 g8) hb9 (fun k e z => kno k _ (own_kd (own_gr ho7 g8) e) z)
              have hc9 := HStep.out w9 w7.heap.size (fun k o e => (hb9.block k (blk_lt (g8.blk (hkp k o e))) (kno k _ ⟨_, g8.blk (hkp k o e)⟩)).trans (g8.blk (hkp k o e))) hG7.size ((hb9.block _ (blk_lt b8) (kno _ _ ⟨_, b8⟩)).trans b8)
              rw [HIns.out] at hd9
              have hG9 : Gr w w9 := gr_gb (hG7.tr g8) hg9 (fun k e => by injection e with e; have := HBz.out; omega)
              have HD9 := Lib.hid hd9; have HC9 := Lib.hid hc9; have HPk9 := Lib.hid hpk9; have HO9 := Lib.hid ho9; have HG9 := Lib.hid hG9
              have c0 := (cell_of_row w7 n0 0 _ _ _ hHeld).trans rfl
              clear hkp kbp hd7 ho7 hG7 g8 b8 hd8 hm8 hd9 hg9 hpk9 kno hb9 ho9 hc9 hG9 hHeld hf7 hb7 hpk7
              go_wp2_with (refine wpList_mapUpdate_run rfl (.tmp 76) (.tmp 77) (.tmp 86) 61 rfl _ _ _ rfl rfl rfl hrun ?_)
              go_roundw
              case rel => exact ⟨j + 1, _, by omega, by go_num, HG9.out, HD9, HC9, HPk9, HO9⟩
              case measure => simp [intOf]; omega
            · obtain rfl : j = L.length := by omega
              have g1 : ¬ (L.length : Int) < (L.length : Int) := by omega
              have e7 := E1.out
              go_wp2_with (go_at_call 44; refine (clone_calls _ (some b) M hDx.out).mono ?_; rintro e w7 ⟨mb2, rfl, hd7, hm7, hn7, hg7⟩; have e7 := (HGx.out.tr hg7).blk E1.out; obtain ⟨d0, d1, d2, d3, d4, d5, d6⟩ := fd_cells e7; have f0 := frozen_of_row w7 p 0 _ _ e7; have f1 := frozen_of_row w7 p 1 _ _ e7; have f2 := frozen_of_row w7 p 2 _ _ e7; have f4 := frozen_of_row w7 p 4 _ _ e7; have f5 := frozen_of_row w7 p 5 _ _ e7)
              have hend := crash_end HF.out EL.out HGx.out hDx.out hCx.out HBz.out hd7 hm7 hg7 E1.out
              rw [Exit.noGoto_normal]
              exact ⟨rfl, .tuple #[], by kernel_rfl, rfl, hend⟩
        · have h1 : ¬ (i : Int) < (F.since.length : Int) := by omega
          obtain ⟨L, eL⟩ : ∃ L, leftD F ps = L := ⟨_, rfl⟩
          have hL64 : L.length ≤ 64 := by rw [← eL, HL.out]; exact HLen.out _ hmle
          have hids : ∀ x ∈ L, F.has x.2 := fun x hx => by
            rw [← eL, HL.out] at hx
            rcases runs_ids (t := x.1) (n := x.2) hx with h | ⟨s, h⟩
            · exact .inr (.inl h)
            · exact .inr (.inr ⟨s, List.mem_of_mem_take h⟩)
          rw [eL] at HDL
          have EL := Lib.hid eL; have HIds := Lib.hid hids; have HPk5 := hPk
          clear hids eL hD hPk HLen HCan HRow
          go_wp2_with fail
          refine (mkeys_calls (some b) wr).mono ?_
          rintro e w5 ⟨rfl, rfl⟩
          go_wp2_with fail
          refine (sorted_calls wr (some b) L HDL.out (by omega)).mono ?_
          rintro e w6 ⟨v6, rfl, ho6, hg6⟩
          have hrg : Gr wr w6 := (Gr.al Gr.rfl' (.cells #[.map (some b)] 61)).tr hg6
          have hG6 := hg.tr hrg
          have HG6 := Lib.hid hG6; have HD6 := Lib.hid (HDL.out.gr hrg); have HPk6 := Lib.hid (show PickAt w6 bp (ps.drop (1 + 0)) by rw [List.drop_one]; exact HPk5.out.gr hrg); have HO6 := Lib.hid (own_mono ho6 hg.size)
          obtain ⟨v6a, v6c, rfl⟩ := own_slice ho6
          clear hrg hG6 ho6 hg6 HDL HPk5
          go_wp2_with fail
          go_loopw [10, 11, 12, 52] (fun _ _ _ jv wx => ∃ (j : Nat) (M : Dir), j ≤ L.length ∧ jv = .int .i64 j ∧ Gr w wx ∧ Hid (DirAt wx (some b) M) ∧ Hid (CutTo F ps w wx L M j) ∧ Hid (PickAt wx bp (ps.drop (1 + j))) ∧ Hid (wx.ownsRow w.heap.size 9 1 (.slice v6a L.length v6c) L.length (L.map fun x => .string x.1))) (fun _ _ _ jv _ => L.length - (intOf jv).toNat)
          case atStart => exact ⟨0, L, Nat.zero_le _, rfl, HG6.out, HD6, Lib.hid (CutTo.start F ps w w6 L), HPk6, HO6⟩
          case round =>
            obtain ⟨j, M, hj, rfl, hgx, hDx, hCx, hPx, hOx⟩ := hrel
            have HGx := Lib.hid hgx
            clear hgx
            by_cases hjl : j < L.length
            · have g1 : (j : Int) < (L.length : Int) := by omega
              have g2 : (0 : Int) ≤ (j : Int) := by omega
              have hjM : j < M.length := by rw [hCx.out.len]; exact hjl
              obtain ⟨_, a6, cc6, e6, _, hrw6⟩ := rdRow_of_own hOx.out
              injection e6 with e61 e62 e63
              subst e61
              obtain ⟨nb6, no6, rfl, hc6⟩ := hrw6 (by omega)
              have cn := hc6 j (.string L[j].1) (by simp [hjl])
              have hnm := hCx.out.name j hjl hjM
              have hol := hCx.out.old j hjl hjM (Nat.le_refl _)
              have hlk := hDx.out.look1 (s := L[j].1) (by have := hDx.out.2.1 M[j] (List.getElem_mem hjM); rw [hnm] at this; unfold maxLen; omega)
              have hs20 : L[j].1.size ≤ 20 := by have := hDx.out.2.1 M[j] (List.getElem_mem hjM); rw [hnm] at this; exact this
              have hlk2 : look M L[j].1 = some L[j].2 := look_of hDx.out.1 (by rw [← hnm, ← hol]; exact List.getElem_mem hjM)
              rw [hlk2, ptr_some] at hlk
              have hfl := (RS1.out.files L[j].2 (HIds.out _ (List.getElem_mem hjl)))
              have hfx := HGx.out.blk hfl.2
              have hrg := HFl.out L[j].2 (HIds.out _ (List.getElem_mem hjl))
              have hins := ins_set hDx.out.1 j hjM
              have hstep := fun (wy : World) n hk hn hx => hCx.out.step (wy := wy) (n := n) hjl hjM hk hn hx
              rw [hnm] at hins hstep
              obtain ⟨nm, enm⟩ : ∃ nm, L[j].1 = nm := ⟨_, rfl⟩
              obtain ⟨n0, en0⟩ : ∃ n0, L[j].2 = n0 := ⟨_, rfl⟩
              rw [enm] at cn hlk hs20 hins hstep
              rw [en0] at hlk hfx hrg hstep
              obtain ⟨x, ex⟩ : ∃ x, F.fl n0 = x := ⟨_, rfl⟩
              rw [ex] at hfx hrg hstep
              have HIns := Lib.hid hins; have HStep := Lib.hid hstep; have HFx := Lib.hid hfx; have HRg := Lib.hid hrg; have HS20 := Lib.hid hs20
              unfold adr at hlk
              have hpkr := pk_rng (ps.getD (1 + j) 0) (n := (x.b.size : Int) - x.sy) (by omega)
              obtain ⟨q, hq⟩ : ∃ q, pk (ps.getD (1 + j) 0) ((x.b.size : Int) - x.sy) = q := ⟨_, rfl⟩
              rw [hq] at hpkr HStep
              have hwr1 : IntKind.i64.wrap ((x.b.size : Int) - x.sy) = (x.b.size : Int) - x.sy := wrap_id (by unfold I64; omega)
              have hwr2 : IntKind.i64.wrap (x.sy + q) = x.sy + q := wrap_id (by unfold I64; omega)
              have hdr : (ps.drop (1 + j)).headD 0 = ps.getD (1 + j) 0 := by rw [List.headD_eq_head?_getD, List.head?_drop]; simp [List.getD]
              have hdt : (ps.drop (1 + j)).tail = ps.drop (1 + (j + 1)) := by rw [List.tail_drop]; rfl
              have HQ := Lib.hid (And.intro hdr (And.intro hdt hq))
              have hi2 : (0 : Int) ≤ x.sy + q := by omega
              have hi3 : x.sy + q ≤ (x.b.size : Int) := by omega
              clear e62 e63 hrw6 hc6 hnm hol hlk2 hfl hins hstep hfx hs20 enm en0 ex hq hdr hdt
              go_upto_region 17 with (at_lookup; refine wpList_look1 _ rfl _ _ 61 rfl (some b) rfl _ rfl _ hlk ?_)
              refine region_start (S := fun w' => w'.heap[n0]? = some (.cells #[.string x.b, .int .i64 x.sy] 70 (0, 0))) (by kernel_rfl) (by exact (Gr.dr Gr.rfl').blk HFx.out) (fun wz hz0 hHeld => ?_)
              simp only [List.size_toArray, List.length_cons, List.length_nil, Nat.reduceAdd]
              refine wpAnyH_take (i := 0) (oi := ?_) (v := ?_) ?_ (by kernel_rfl) (by kernel_rfl) (by kernel_rfl) ?_ ?_ (by assumption) ?_; rotate_left 2; (focus (simp only [List.getElem?_toArray, List.getElem?_cons_zero]; rfl)); (focus (exact fun _ _ _ h => h)); first | (focus (refine Or.inl ⟨by rfl, ?_⟩; intro w hSw; (try dsimp only at hSw); (try dsimp only [Array.getD]); go_simp; (try with_reducible rfl))) | (focus (refine Or.inr ⟨by rfl, ?_⟩; rfl)) | fail "op 0"
              try simp only [Act.put, List.setIfInBounds_toArray, List.set_cons_zero, List.set_cons_succ]
              refine wpAnyH_take (i := 1) (oi := ?_) (v := ?_) ?_ (by kernel_rfl) (by kernel_rfl) (by kernel_rfl) ?_ ?_ (by assumption) ?_; rotate_left 2; (focus (simp only [List.getElem?_toArray, List.getElem?_cons_succ, List.getElem?_cons_zero]; rfl)); (focus (exact fun _ _ _ h => h)); first | (focus (refine Or.inl ⟨by rfl, ?_⟩; intro w hSw; (try dsimp only at hSw); (try dsimp only [Array.getD]); go_simp; (try with_reducible rfl))) | (focus (refine Or.inr ⟨by rfl, ?_⟩; rfl)) | fail "op 1"
              try simp only [Act.put, List.setIfInBounds_toArray, List.set_cons_zero, List.set_cons_succ]
              refine wpAnyH_take (i := 2) (oi := ?_) (v := ?_) ?_ (by kernel_rfl) (by kernel_rfl) (by kernel_rfl) ?_ ?_ (by assumption) ?_; rotate_left 2; (focus (simp only [List.getElem?_toArray, List.getElem?_cons_succ, List.getElem?_cons_zero]; rfl)); (focus (exact fun _ _ _ h => h)); first | (focus (refine Or.inl ⟨by rfl, ?_⟩; intro w hSw; (try dsimp only at hSw); (try dsimp only [Array.getD]); go_simp; (try with_reducible rfl))) | (focus (refine Or.inr ⟨by rfl, ?_⟩; rfl)) | fail "op 2"
              try simp only [Act.put, List.setIfInBounds_toArray, List.set_cons_zero, List.set_cons_succ]
              refine wpAnyH_take (i := 3) (oi := ?_) (v := ?_) ?_ (by kernel_rfl) (by kernel_rfl) (by kernel_rfl) ?_ ?_ (by assumption) ?_; rotate_left 2; (focus (simp only [List.getElem?_toArray, List.getElem?_cons_succ, List.getElem?_cons_zero]; rfl)); (focus (exact fun _ _ _ h => h)); first | (focus (refine Or.inl ⟨by rfl, ?_⟩; intro w hSw; (try dsimp only at hSw); have c1 := (cell_of_row w n0 1 _ _ _ hSw).trans rfl; (try dsimp only [Array.getD]); go_simp; (try with_reducible rfl))) | (focus (refine Or.inr ⟨by rfl, ?_⟩; rfl)) | fail "op 3"
              try simp only [Act.put, List.setIfInBounds_toArray, List.set_cons_zero, List.set_cons_succ]
              refine wpAnyH_take (i := 4) (oi := ?_) (v := ?_) ?_ (by kernel_rfl) (by kernel_rfl) (by kernel_rfl) ?_ ?_ (by assumption) ?_; rotate_left 2; (focus (simp only [List.getElem?_toArray, List.getElem?_cons_succ, List.getElem?_cons_zero]; rfl)); (focus (exact fun _ _ _ h => h)); first | (focus (refine Or.inl ⟨by rfl, ?_⟩; intro w hSw; (try dsimp only at hSw); (try dsimp only [Array.getD]); go_simp; (try with_reducible rfl))) | (focus (refine Or.inr ⟨by rfl, ?_⟩; rfl)) | fail "op 4"
              try simp only [Act.put, List.setIfInBounds_toArray, List.set_cons_zero, List.set_cons_succ]
              refine wpAnyH_take (i := 5) (oi := ?_) (v := ?_) ?_ (by kernel_rfl) (by kernel_rfl) (by kernel_rfl) ?_ ?_ (by assumption) ?_; rotate_left 2; (focus (simp only [List.getElem?_toArray, List.getElem?_cons_succ, List.getElem?_cons_zero]; rfl)); (focus (exact fun _ _ _ h => h)); first | (focus (refine Or.inl ⟨by rfl, ?_⟩; intro w hSw; (try dsimp only at hSw); (try dsimp only [Array.getD]); go_simp; (try with_reducible rfl))) | (focus (refine Or.inr ⟨by rfl, ?_⟩; rfl)) | fail "op 5"
              try simp only [Act.put, List.setIfInBounds_toArray, List.set_cons_zero, List.set_cons_succ]
              refine wpAnyH_take (i := 6) (oi := ?_) (v := ?_) ?_ (by kernel_rfl) (by kernel_rfl) (by kernel_rfl) ?_ ?_ (by assumption) ?_; rotate_left 2; (focus (simp only [List.getElem?_toArray, List.getElem?_cons_succ, List.getElem?_cons_zero]; rfl)); (focus (exact fun _ _ _ h => h)); first | (focus (refine Or.inl ⟨by rfl, ?_⟩; intro w hSw; (try dsimp only at hSw); (try dsimp only [Array.getD]); go_simp; (try with_reducible rfl))) | (focus (refine Or.inr ⟨by rfl, ?_⟩; rfl)) | fail "op 6"
              try simp only [Act.put, List.setIfInBounds_toArray, List.set_cons_zero, List.set_cons_succ]
              refine wpAnyH_take (i := 7) (oi := ?_) (v := ?_) ?_ (by kernel_rfl) (by kernel_rfl) (by kernel_rfl) ?_ ?_ (by assumption) ?_; rotate_left 2; (focus (simp only [List.getElem?_toArray, List.getElem?_cons_succ, List.getElem?_cons_zero]; rfl)); (focus (exact fun _ _ _ h => h)); first | (focus (refine Or.inl ⟨by rfl, ?_⟩; intro w hSw; (try dsimp only at hSw); (try dsimp only [Array.getD]); go_simp; (try with_reducible rfl))) | (focus (refine Or.inr ⟨by rfl, ?_⟩; rfl)) | fail "op 7"
              try simp only [Act.put, List.setIfInBounds_toArray, List.set_cons_zero, List.set_cons_succ]
              refine wpAnyH_take (i := 8) (oi := ?_) (v := ?_) ?_ (by kernel_rfl) (by kernel_rfl) (by kernel_rfl) ?_ ?_ (by assumption) ?_; rotate_left 2; (focus (simp only [List.getElem?_toArray, List.getElem?_cons_succ, List.getElem?_cons_zero]; rfl)); (focus (exact fun _ _ _ h => h)); first | (focus (refine Or.inl ⟨by rfl, ?_⟩; intro w hSw; (try dsimp only at hSw); have c0 := (cell_of_row w n0 0 _ _ _ hSw).trans rfl; (try dsimp only [Array.getD]); go_simp; (try with_reducible rfl))) | (focus (refine Or.inr ⟨by rfl, ?_⟩; rfl)) | fail "op 8"
              try simp only [Act.put, List.setIfInBounds_toArray, List.set_cons_zero, List.set_cons_succ]
              refine wpAnyH_take (i := 10) (oi := ?_) (v := ?_) ?_ (by kernel_rfl) (by kernel_rfl) (by kernel_rfl) ?_ ?_ (by assumption) ?_; rotate_left 2; (focus (simp only [List.getElem?_toArray, List.getElem?_cons_succ, List.getElem?_cons_zero]; rfl)); (focus (exact fun _ _ _ h => h)); first | (focus (refine Or.inl ⟨by rfl, ?_⟩; intro w hSw; (try dsimp only at hSw); (try dsimp only [Array.getD]); go_simp; (try with_reducible rfl))) | (focus (refine Or.inr ⟨by rfl, ?_⟩; rfl)) | fail "op 10"
              try simp only [Act.put, List.setIfInBounds_toArray, List.set_cons_zero, List.set_cons_succ]
              refine wpAnyH_take (i := 11) (oi := ?_) (v := ?_) ?_ (by kernel_rfl) (by kernel_rfl) (by kernel_rfl) ?_ ?_ (by assumption) ?_; rotate_left 2; (focus (simp only [List.getElem?_toArray, List.getElem?_cons_succ, List.getElem?_cons_zero]; rfl)); (focus (exact fun _ _ _ h => h)); first | (focus (refine Or.inl ⟨by rfl, ?_⟩; intro w hSw; (try dsimp only at hSw); (try dsimp only [Array.getD]); go_simp; (try with_reducible rfl))) | (focus (refine Or.inr ⟨by rfl, ?_⟩; rfl)) | fail "op 11"
              try simp only [Act.put, List.setIfInBounds_toArray, List.set_cons_zero, List.set_cons_succ]
              refine wpAnyH_take (i := 12) (oi := ?_) (v := ?_) ?_ (by kernel_rfl) (by kernel_rfl) (by kernel_rfl) ?_ ?_ (by assumption) ?_; rotate_left 2; (focus (simp only [List.getElem?_toArray, List.getElem?_cons_succ, List.getElem?_cons_zero]; rfl)); (focus (exact fun _ _ _ h => h)); first | (focus (refine Or.inl ⟨by rfl, ?_⟩; intro w hSw; (try dsimp only at hSw); (try dsimp only [Array.getD]); go_simp; (try with_reducible rfl))) | (focus (refine Or.inr ⟨by rfl, ?_⟩; rfl)) | fail "op 12"
              try simp only [Act.put, List.setIfInBounds_toArray, List.set_cons_zero, List.set_cons_succ]
              refine wpAnyH_take (i := 13) (oi := ?_) (v := ?_) ?_ (by kernel_rfl) (by kernel_rfl) (by kernel_rfl) ?_ ?_ (by assumption) ?_; rotate_left 2; (focus (simp only [List.getElem?_toArray, List.getElem?_cons_succ, List.getElem?_cons_zero]; rfl)); (focus (exact fun _ _ _ h => h)); first | (focus (refine Or.inl ⟨by rfl, ?_⟩; intro w hSw; (try dsimp only at hSw); have c1 := (cell_of_row w n0 1 _ _ _ hSw).trans rfl; (try dsimp only [Array.getD]); go_simp; (try with_reducible rfl))) | (focus (refine Or.inr ⟨by rfl, ?_⟩; rfl)) | fail "op 13"
              try simp only [Act.put, List.setIfInBounds_toArray, List.set_cons_zero, List.set_cons_succ]
              refine wpAnyH_ready (rs := [9]) (by kernel_rfl) (by simp) ?_
              refine AllReadyH.cons (o := ?_) ?_ (fun K hK => ?_) AllReadyH.nil; rotate_left; (focus (simp only [List.getElem?_toArray, List.getElem?_cons_succ, List.getElem?_cons_zero]; rfl))
              go_simp
              refine hK.out _ _ hHeld (fun hHeld => ?_)
              clear hK K
              try simp only [Act.put, List.setIfInBounds_toArray, List.set_cons_zero, List.set_cons_succ]
              refine wpAnyH_take (i := 14) (oi := ?_) (v := ?_) ?_ (by kernel_rfl) (by kernel_rfl) (by kernel_rfl) ?_ ?_ (by assumption) ?_; rotate_left 2; (focus (simp only [List.getElem?_toArray, List.getElem?_cons_succ, List.getElem?_cons_zero]; rfl)); (focus (exact fun _ _ _ h => h)); first | (focus (refine Or.inl ⟨by rfl, ?_⟩; intro w hSw; (try dsimp only at hSw); (try dsimp only [Array.getD]); go_simp; (try with_reducible rfl))) | (focus (refine Or.inr ⟨by rfl, ?_⟩; rfl)) | fail "op 14"
              try simp only [Act.put, List.setIfInBounds_toArray, List.set_cons_zero, List.set_cons_succ]
              refine wpAnyH_ready (rs := [15]) (by kernel_rfl) (by simp) ?_
              refine AllReadyH.cons (o := ?_) ?_ (fun K hK => ?_) AllReadyH.nil; rotate_left; (focus (simp only [List.getElem?_toArray, List.getElem?_cons_succ, List.getElem?_cons_zero]; rfl))
              go_simp
              refine (next_calls wz bp (ps.drop (1 + j)) (hPx.out.gr hz0) (fun y hy => HPs.out.1 y (List.mem_of_mem_drop hy)) (by have := HPs.out.2; rw [List.length_drop]; unfold maxLen at *; omega) ((x.b.size : Int) - x.sy) ⟨by omega, by omega⟩).mono ?_
              rintro e w7 ⟨rfl, hpk7, hb7⟩
              rw [HQ.out.1, HQ.out.2.2]
              have hf7 := (hb7.block n0 (blk_lt hHeld) (fun z => by subst z; have := (hPx.out.gr hz0).kd.one ⟨_, hHeld⟩; revert this; decide)).trans hHeld
              refine hK.out _ _ hf7 (fun hHeld => ?_)
              clear hK K
              try simp only [Act.put, List.setIfInBounds_toArray, List.set_cons_zero, List.set_cons_succ]
              refine wpAnyH_take (i := 16) (oi := ?_) (v := ?_) ?_ (by kernel_rfl) (by kernel_rfl) (by kernel_rfl) ?_ ?_ (by assumption) ?_; rotate_left 2; (focus (simp only [List.getElem?_toArray, List.getElem?_cons_succ, List.getElem?_cons_zero]; rfl)); (focus (exact fun _ _ _ h => h)); first | (focus (refine Or.inl ⟨by rfl, ?_⟩; intro w hSw; (try dsimp only at hSw); (try dsimp only [Array.getD]); go_simp; (try with_reducible rfl))) | (focus (refine Or.inr ⟨by rfl, ?_⟩; rfl)) | fail "op 16"
              try simp only [Act.put, List.setIfInBounds_toArray, List.set_cons_zero, List.set_cons_succ]
              refine wpAnyH_take (i := 17) (oi := ?_) (v := ?_) ?_ (by kernel_rfl) (by kernel_rfl) (by kernel_rfl) ?_ ?_ (by assumption) ?_; rotate_left 2; (focus (simp only [List.getElem?_toArray, List.getElem?_cons_succ, List.getElem?_cons_zero]; rfl)); (focus (exact fun _ _ _ h => h)); first | (focus (refine Or.inl ⟨by rfl, ?_⟩; intro w hSw; (try dsimp only at hSw); (try dsimp only [Array.getD]); go_simp; (try with_reducible rfl))) | (focus (refine Or.inr ⟨by rfl, ?_⟩; rfl)) | fail "op 17"
              try simp only [Act.put, List.setIfInBounds_toArray, List.set_cons_zero, List.set_cons_succ]
              refine wpAnyH_done (by kernel_rfl) ?_ _
              have hkp : ∀ (k : Nat) (o : Array Value), wr.heap[k]? = some (.cells o 70 (0, 0)) → w7.heap[k]? = some (.cells o 70 (0, 0)) := fun k o e => (hb7.block k (blk_lt (hz0.blk e)) (fun z => by subst z; have := (hPx.out.gr hz0).kd.one ⟨_, hz0.blk e⟩; revert this; decide)).trans (hz0.blk e)
              have kbp : ∀ k, k = bp → Kd wz k 23 := fun k z => by subst z; exact (hPx.out.gr hz0).kd
              have hd7 := (hDx.out.gr hz0).btk hb7 kbp
              have ho7 := own_bt (own_gr hOx.out hz0) hb7 (fun k e z => by have := (own_kd (own_gr hOx.out hz0) e).one (kbp k z); revert this; decide)
              have hG7 : Gr w w7 := hb7.gr (HGx.out.tr hz0) (fun k z => by subst z; rw [EA.out]; exact Nat.le_refl _)
              have g8 : Gr w7 (w7.alloc (.cells #[.string (x.b.extract 0 (x.sy + q).toNat), .int .i64 (x.sy + q)] 70)) := Gr.al Gr.rfl' _
              have b8 := heap_alloc_new w7 (.cells #[.string (x.b.extract 0 (x.sy + q).toNat), .int .i64 (x.sy + q)] 70)
              have hd8 := hd7.gr g8
              obtain ⟨es8, cc8, hm8⟩ := hd8.map
              obtain ⟨w9, hrun, hd9, hg9⟩ := hd8.store (by rw [hCx.out.len]; unfold maxLen; omega) HS20.out w7.heap.size
              rw [ptr_some] at hrun
              unfold adr at hrun
              have hpk9 := (hpk7.gr g8).turn hm8 hg9
              rw [HQ.out.2.1] at hpk9
              have kno : ∀ k T, Kd (w7.alloc (.cells #[.string (x.b.extract 0 (x.sy + q).toNat), .int .i64 (x.sy + q)] 70)) k T → ¬ k = b := fun k T hT z => by subst z; exact hT.no hm8
              have hb9 : Bt (fun k => k = b) (w7.alloc (.cells #[.string (x.b.extract 0 (x.sy + q).toNat), .int .i64 (x.sy + q)] 70)) w9 := Bt.row hg9 rfl
              have ho9 := own_bt (own_gr ho7 g8) hb9 (fun k e z => kno k _ (own_kd (own_gr ho7 g8) e) z)
              have hc9 := HStep.out w9 w7.heap.size (fun k o e => (hb9.block k (blk_lt (g8.blk (hkp k o e))) (kno k _ ⟨_, g8.blk (hkp k o e)⟩)).trans (g8.blk (hkp k o e))) hG7.size ((hb9.block _ (blk_lt b8) (kno _ _ ⟨_, b8⟩)).trans b8)
              rw [HIns.out] at hd9
              have hG9 : Gr w w9 := gr_gb (hG7.tr g8) hg9 (fun k e => by injection e with e; have := HBz.out; omega)
              have HD9 := Lib.hid hd9; have HC9 := Lib.hid hc9; have HPk9 := Lib.hid hpk9; have HO9 := Lib.hid ho9; have HG9 := Lib.hid hG9
              have c0 := (cell_of_row w7 n0 0 _ _ _ hHeld).trans rfl
              clear hkp kbp hd7 ho7 hG7 g8 b8 hd8 hm8 hd9 hg9 hpk9 kno hb9 ho9 hc9 hG9 hHeld hf7 hb7 hpk7
              go_wp2_with (refine wpList_mapUpdate_run rfl (.tmp 76) (.tmp 77) (.tmp 86) 61 rfl _ _ _ rfl rfl rfl hrun ?_)
              go_roundw
              case rel => exact ⟨j + 1, _, by omega, by go_num, HG9.out, HD9, HC9, HPk9, HO9⟩
              case measure => simp [intOf]; omega
            · obtain rfl : j = L.length := by omega
              have g1 : ¬ (L.length : Int) < (L.length : Int) := by omega
              have e7 := E1.out
              go_wp2_with (go_at_call 44; refine (clone_calls _ (some b) M hDx.out).mono ?_; rintro e w7 ⟨mb2, rfl, hd7, hm7, hn7, hg7⟩; have e7 := (HGx.out.tr hg7).blk E1.out; obtain ⟨d0, d1, d2, d3, d4, d5, d6⟩ := fd_cells e7; have f0 := frozen_of_row w7 p 0 _ _ e7; have f1 := frozen_of_row w7 p 1 _ _ e7; have f2 := frozen_of_row w7 p 2 _ _ e7; have f4 := frozen_of_row w7 p 4 _ _ e7; have f5 := frozen_of_row w7 p 5 _ _ e7)
              have hend := crash_end HF.out EL.out HGx.out hDx.out hCx.out HBz.out hd7 hm7 hg7 E1.out
              rw [Exit.noGoto_normal]
              exact ⟨rfl, .tuple #[], by kernel_rfl, rfl, hend⟩
end Go.Proofs.Ytdopmcepfacdlaa
