/- The ring: New. -/
import Derived.Test.YtomhdkppgfcaaaaRgE
import Derived.RangeFuncBox
import Derived.BigFrame
import Derived.Laws.BytesArg
import Derived.Deep.RegionLaw
import Derived.Shelf.SlSortCmp.NoneTotal
namespace Go.Proofs.Ytomhdkppgfcaaaa
open Go.RowKit

theorem infoPt : (Try.prog.info? 59).map (fun i => (i.zero, i.size, i.bytes)) = some (some (.agg #[.int .u64 0, .int .i64 0]), 2, 16) := by kernel_rfl
/-- Two rows of different types are two blocks. -/
theorem own_ne {w : World} {b1 b2 e1 e2 s1 s2 n1 n2 : Nat} {v1 v2 : Value} {xs1 xs2 : List Value} (h1 : w.ownsRow b1 e1 s1 v1 n1 xs1) (h2 : w.ownsRow b2 e2 s2 v2 n2 xs2) (hne : e1 ≠ e2) {j : Nat} (h : v1.ownBlock = some j) : v2.ownBlock ≠ some j := by
  intro h'
  rcases h1.2 with ⟨rfl, _⟩ | ⟨g, cap, cur, rfl, _, hb, _⟩
  · simp [Value.ownBlock] at h
  · rcases h2.2 with ⟨rfl, _⟩ | ⟨g2, cap2, cur2, rfl, _, hb2, _⟩
    · simp [Value.ownBlock] at h'
    · simp [Value.ownBlock] at h h'
      subst h; subst h'
      rw [hb] at hb2; injection hb2 with hb2; injection hb2 with _ hb2; exact hne hb2
theorem own_not {w : World} {b1 e1 s1 n1 p T : Nat} {v1 : Value} {xs1 : List Value} {cs : Array Value} {fz : Nat × Nat} (h1 : w.ownsRow b1 e1 s1 v1 n1 xs1) (h : w.heap[p]? = some (.cells cs T fz)) (hne : e1 ≠ T) : v1.ownBlock ≠ some p := by
  intro h'
  rcases h1.2 with ⟨rfl, _⟩ | ⟨g, cap, cur, rfl, _, hb, _⟩
  · simp [Value.ownBlock] at h'
  · simp [Value.ownBlock] at h'
    subst h'
    rw [h] at hb; injection hb with hb; injection hb with _ hb; exact hne hb.symm
theorem gb_set (W : World) (b o : Nat) (v : Value) : W.grownBy (W.setCell ⟨b, o, none⟩ v) (some b) :=
  ⟨rfl, rfl, rfl, (KeepsWalks.setCell W _ v).size, fun k _ hk => Below.heap_setCell _ _ _ k (fun e => hk (by rw [e]))⟩
/-- A ring: its block, the row of its nodes, the row of its points. -/
def RG (base p : Nat) (ep : Int) (ns : List Int) (ps : List Pt) (w : World) : Prop :=
  base ≤ p ∧ ∃ vn vp, w.heap[p]? = some (.cells #[.int .i64 ep, vn, vp] 56 (0, 0)) ∧ w.ownsRow base 3 1 vn ns.length (encI ns) ∧ w.ownsRow base 59 2 vp ps.length (encPs ps)
theorem RG.gr {base p : Nat} {ep : Int} {ns : List Int} {ps : List Pt} {w w1 : World} (h : RG base p ep ns ps w) (hg : Gr w w1) : RG base p ep ns ps w1 := by
  obtain ⟨h0, vn, vp, h1, h2, h3⟩ := h
  exact ⟨h0, vn, vp, (hg.block _ (Array.getElem?_eq_some_iff.1 h1).1).trans h1, own_gr h2 hg, own_gr h3 hg⟩
theorem rg_putN {base p : Nat} {ep : Int} {ns ns' : List Int} {ps : List Pt} {w w1 : World} {vn vp vn' : Value} (h0 : base ≤ p) (h1 : w.heap[p]? = some (.cells #[.int .i64 ep, vn, vp] 56 (0, 0))) (h2 : w.ownsRow base 3 1 vn ns.length (encI ns)) (h3 : w.ownsRow base 59 2 vp ps.length (encPs ps))
    (hgrow : w.grownBy w1 vn.ownBlock) (hown : w1.ownsRow base 3 1 vn' ns'.length (encI ns')) : RG base p ep ns' ps (w1.setCell ⟨p, 1, none⟩ vn') := by
  have b1 : w1.heap[p]? = some (.cells #[.int .i64 ep, vn, vp] 56 (0, 0)) := (hgrow.block p (Array.getElem?_eq_some_iff.1 h1).1 (fun e => own_not h2 h1 (by decide) e.symm)).trans h1
  have b3 : w1.ownsRow base 59 2 vp ps.length (encPs ps) := h3.kept hgrow (by
    rcases hv : vp.ownBlock with _ | j
    · exact .inl rfl
    · exact .inr (fun e => own_ne h3 h2 (by decide) hv e.symm))
  refine ⟨h0, vn', vp, ?_, hown.kept (gb_set w1 p 1 vn') (.inr (own_not hown b1 (by decide))), b3.kept (gb_set w1 p 1 vn') (.inr (own_not b3 b1 (by decide)))⟩
  have := heap_setCell_same w1 p 1 _ _ vn' b1
  simpa using this
theorem rg_putP {base p : Nat} {ep : Int} {ns : List Int} {ps ps' : List Pt} {w w1 : World} {vn vp vp' : Value} (h0 : base ≤ p) (h1 : w.heap[p]? = some (.cells #[.int .i64 ep, vn, vp] 56 (0, 0))) (h2 : w.ownsRow base 3 1 vn ns.length (encI ns)) (h3 : w.ownsRow base 59 2 vp ps.length (encPs ps))
    (hgrow : w.grownBy w1 vp.ownBlock) (hown : w1.ownsRow base 59 2 vp' ps'.length (encPs ps')) : RG base p ep ns ps' (w1.setCell ⟨p, 2, none⟩ vp') := by
  have b1 : w1.heap[p]? = some (.cells #[.int .i64 ep, vn, vp] 56 (0, 0)) := (hgrow.block p (Array.getElem?_eq_some_iff.1 h1).1 (fun e => own_not h3 h1 (by decide) e.symm)).trans h1
  have b2 : w1.ownsRow base 3 1 vn ns.length (encI ns) := h2.kept hgrow (by
    rcases hv : vn.ownBlock with _ | j
    · exact .inl rfl
    · exact .inr (fun e => own_ne h2 h3 (by decide) hv e.symm))
  refine ⟨h0, vn, vp', ?_, b2.kept (gb_set w1 p 2 vp') (.inr (own_not b2 b1 (by decide))), hown.kept (gb_set w1 p 2 vp') (.inr (own_not hown b1 (by decide)))⟩
  have := heap_setCell_same w1 p 2 _ _ vp' b1
  simpa using this
theorem rg_at {p : Nat} {o : Obj} {vn vx e0 v2 : Value} {w w1 : World} {b e s n : Nat} {xs : List Value} (h1 : w.heap[p]? = some (.cells #[e0, vn, v2] 56 (0, 0))) (h2 : w.ownsRow b e s vx n xs) (hne : e ≠ 56) (hgrow : (w.alloc o).grownBy w1 vx.ownBlock) :
    w1.cell? ⟨p, 1, none⟩ = some vn ∧ w1.frozen? ⟨p, 1, none⟩ = false ∧ w1.cell? ⟨p, 2, none⟩ = some v2 ∧ w1.frozen? ⟨p, 2, none⟩ = false := by
  have hl := (Array.getElem?_eq_some_iff.1 h1).1
  have hb : w1.heap[p]? = some (.cells #[e0, vn, v2] 56 (0, 0)) := (hgrow.block p (by simp; omega) (fun e => own_not h2 h1 hne e.symm)).trans ((Below.heap_alloc _ _ _ hl).trans h1)
  refine ⟨?_, by simp [World.frozen?, hb], ?_, by simp [World.frozen?, hb]⟩
  · rw [cell_of_row _ p 1 _ _ _ hb]; rfl
  · rw [cell_of_row _ p 2 _ _ _ hb]; rfl
/-- The text of a point: 'n', the node, the number. -/
def key3 (n k : Int) : ByteArray := strOfNums [110, IntKind.u8.wrap n, IntKind.u8.wrap k]
theorem key3_size (n k : Int) : (key3 n k).size = 3 := by simp [key3, strOfNums_size]
def ptAt (n k : Int) : Pt := (hashS (key3 n k), n)
def ptsOf1 (n : Int) (k : Nat) : List Pt := (List.range k).map fun j : Nat => ptAt n j
def rawPts (ns : List Int) : List Pt := ns.flatMap fun n => ptsOf1 n 8
theorem ptsOf1_succ (n : Int) (k : Nat) : ptsOf1 n (k + 1) = ptsOf1 n k ++ [ptAt n k] := by simp [ptsOf1, List.range_succ]
theorem rawPts_len (ns : List Int) : (rawPts ns).length = ns.length * 8 := by
  induction ns with
  | nil => rfl
  | cons x r ih =>
    have e : rawPts (x :: r) = ptsOf1 x 8 ++ rawPts r := rfl
    rw [e, List.length_append, ih, List.length_cons]
    have : (ptsOf1 x 8).length = 8 := by simp [ptsOf1]
    omega
theorem rawPts_snoc (ns : List Int) (n : Int) : rawPts (ns ++ [n]) = rawPts ns ++ ptsOf1 n 8 := by simp [rawPts]
theorem encPs_snoc (l : List Pt) (x : Pt) : encPs (l ++ [x]) = encPs l ++ [.int .u64 x.1, .int .i64 x.2] := by simp [encP]
/-- The points of a ring: those of its nodes, rising. -/
def IsPts (ns : List Int) (ps : List Pt) : Prop := ps.Perm (rawPts ns) ∧ ps.Pairwise leP
theorem conv3 (w : World) (n k : Int) : (convert 57 9 (.slice (some ⟨w.heap.size, 0, none⟩) 3 3)).run Try.prog (w.alloc (.cells #[.int .u8 110, .int .u8 (IntKind.u8.wrap n), .int .u8 (IntKind.u8.wrap k)] 5)).drew = .ok (.string (key3 n k)) (w.alloc (.cells #[.int .u8 110, .int .u8 (IntKind.u8.wrap n), .int .u8 (IntKind.u8.wrap k)] 5)).drew :=
  run_convert_bytes_arg _ 57 5 Try.underlying57 Try.underlying5 w.heap.size 0 3 3 [110, IntKind.u8.wrap n, IntKind.u8.wrap k] rfl (fun i hi => by
    rw [World.cell?_drew]
    refine cells_at w.heap.size rfl i _ ?_
    match i, hi with
    | 0, _ => rfl
    | 1, _ => rfl
    | 2, _ => rfl) 9 Try.underlying9
set_option maxRecDepth 100000 in
set_option maxHeartbeats 4000000 in
theorem new_calls (ep : Int) (v : Value) (l : List Int) (w : World) (hv : rdRow w 1 v l.length (encI l)) (hk : l.length ≤ 1000000) :
    Calls Try.prog 13 #[.int .i64 ep, v] w fun e w' => ∃ p ps, e = .returned (.pointer (some ⟨p, 0, none⟩)) ∧ IsPts (nodesOf l) ps ∧ RG w.heap.size p ep (nodesOf l) ps w' ∧ Gr w w' := by
  have hcon := fun n W hg => contains_calls v l n W (hv.gr hg) hk
  obtain ⟨va, vcap, rfl⟩ : ∃ va vcap, v = .slice va l.length vcap := by obtain ⟨_, u1, u2, u3, _⟩ := hv; exact ⟨u1, u2, u3⟩
  obtain ⟨i0, hi, hz0, hz1, hz2⟩ := info_parts infoInt
  obtain ⟨j0, hj, hy0, hy1, hy2⟩ := info_parts infoPt
  have Hcon := Lib.hid hcon
  clear hcon hv
  go_enter Try.func13, Try.ntmps13
  go_wp2_with fail
  have bP := heap_alloc_new w (.cells #[.int .i64 ep, .slice none 0 0, .slice none 0 0] 56)
  have hG0 : Gr w (w.alloc (.cells #[.int .i64 ep, .slice none 0 0, .slice none 0 0] 56)) := by (repeat (first | exact Gr.rfl' | refine Gr.al ?_ _ | refine Gr.dr ?_ | refine Gr.drN ?_ | refine Gr.sc ?_ (by simp <;> omega) _ | refine Gr.tr ?_ (by assumption)))
  have hR0 : RG w.heap.size w.heap.size ep [] [] (w.alloc (.cells #[.int .i64 ep, .slice none 0 0, .slice none 0 0] 56)) := ⟨Nat.le_refl _, _, _, bP, World.ownsRow_nil _ _ _ _, World.ownsRow_nil _ _ _ _⟩
  clear bP
  generalize w.alloc (.cells #[.int .i64 ep, .slice none 0 0, .slice none 0 0] 56) = W0 at *
  go_loopw [11] (fun i wr => ∃ n : Nat, n ≤ 16 ∧ i = .int .i64 n ∧ RG w.heap.size w.heap.size ep (nodesTo l n) (rawPts (nodesTo l n)) wr ∧ Gr w wr) (fun i _ => 16 - (intOf i).toNat)
  case atStart => exact ⟨0, Nat.zero_le _, rfl, hR0, hG0⟩
  case round =>
    obtain ⟨n, hn, rfl, hr, hg⟩ := hrel
    have hps := rawPts_len (nodesTo l n)
    have hnl := nodesTo_len l n
    by_cases hlt : n < 16
    · have h1 : (n : Int) < 16 := by omega
--[[
      by_cases hmem : (n : Int) ∈ l
      · have hd : decide ((n : Int) ∈ l) = true := decide_eq_true hmem
        obtain ⟨h0, vn, vp, b1, o2, o3⟩ := hr
        have c1 : wr.cell? ⟨w.heap.size, 1, none⟩ = some vn := by rw [cell_of_row _ w.heap.size 1 _ _ _ b1]; rfl
        have c2 : wr.cell? ⟨w.heap.size, 2, none⟩ = some vp := by rw [cell_of_row _ w.heap.size 2 _ _ _ b1]; rfl
        obtain ⟨na, nc, rfl⟩ := own_slice o2
        have hgz := hg.size
        have Hown := Lib.hid o2
        have HM := Lib.hid hmem
        clear o2 hmem
        go_wp2_with fail
        refine (Hcon.out _ _ hg).mono ?_
        rintro e wq ⟨rfl, rfl⟩
        rw [hd]
        go_wp2_with (at_builtin; refine wpList_append_own _ rfl _ _ 27 rfl w.heap.size 3 i0 _ 1 8 Try.underlying27 hi hz0 hz1 hz2 rfl (by decide) _ _ _ rfl (Hown.out.alloc _) ⟨wr.heap.size, 0, none⟩ 1 1 [.int .i64 (n : Int)] rfl rfl (World.news_of_block (heap_alloc_new wr _)) (by intro u hu; simp only [List.mem_cons, List.not_mem_nil, or_false] at hu; subst hu; rfl) (by unfold maxLen; omega) (by omega) (by simp; omega) ?_; intro v3 w3 hown3 hgrow3 _; obtain ⟨a3, q3, rfl⟩ := own_slice hown3; obtain ⟨d1, f1, d2, f2⟩ := rg_at b1 Hown.out (by decide) hgrow3)
        have hb3 := (Hown.out.alloc (.cells #[.int .i64 (n : Int)] 3))
        have hP1 := rg_putN (ns := nodesTo l n) (ns' := nodesTo l (n + 1)) (ps := rawPts (nodesTo l n)) h0 ((Below.heap_alloc _ _ _ (Array.getElem?_eq_some_iff.1 b1).1).trans b1) hb3 (o3.alloc _) hgrow3 (own_cast hown3 (by rw [nodesTo_yes HM.out]; simp) (by rw [nodesTo_yes HM.out, encI_snoc]))
        have hG1 : Gr w (w3.setCell ⟨w.heap.size, 1, none⟩ (.slice a3 ((nodesTo l n).length + 1) q3)) := Gr.sc (gr_gb (hg.al _) hgrow3 (fun j hj => (Hown.out.lt j hj).1)) (by simp) _
        generalize w3.setCell ⟨w.heap.size, 1, none⟩ (.slice a3 ((nodesTo l n).length + 1) q3) = W4 at *
        clear hb3 hown3 hgrow3 d1 f1 d2 f2 b1 c1 c2 o3 Hown
        go_loopw [28] (fun i wx => ∃ k : Nat, k ≤ 8 ∧ i = .int .i64 k ∧ RG w.heap.size w.heap.size ep (nodesTo l (n + 1)) (rawPts (nodesTo l n) ++ ptsOf1 n k) wx ∧ Gr w wx) (fun i _ => 8 - (intOf i).toNat)
        case atStart => exact ⟨0, Nat.zero_le _, rfl, by simpa [ptsOf1] using hP1, hG1⟩
        case round =>
          obtain ⟨k, hk8, rfl, hr, hgx⟩ := hrel
          have hpl : (rawPts (nodesTo l n) ++ ptsOf1 n k).length ≤ 136 := by rw [List.length_append, hps]; simp [ptsOf1]; omega
          have Hsuc := Lib.hid (ptsOf1_succ n k)
          have H8 := Lib.hid (show k = 8 → rawPts (nodesTo l n) ++ ptsOf1 n k = rawPts (nodesTo l (n + 1)) from fun e => by rw [nodesTo_yes HM.out, rawPts_snoc, e])
          have Happ := Lib.hid (List.append_assoc (rawPts (nodesTo l n)) (ptsOf1 n k) [ptAt n k])
          obtain ⟨ps', hps'⟩ : ∃ ps', rawPts (nodesTo l n) ++ ptsOf1 n k = ps' := ⟨_, rfl⟩
          rw [hps'] at hr hpl H8 Happ
          obtain ⟨_, vn', vp', b1, o2, o3⟩ := hr
          have hxz := hgx.size
          by_cases hk1 : k < 8
          · have h2 : (k : Int) < 8 := by omega
            have c2 : wr.cell? ⟨w.heap.size, 2, none⟩ = some vp' := by rw [cell_of_row _ w.heap.size 2 _ _ _ b1]; rfl
            obtain ⟨pa, pc, rfl⟩ := own_slice o3
            have Hown := Lib.hid o3
            clear o3
            go_wp2_with fail
            have c2a := fun o => keepc (Gr.al Gr.rfl' o) c2
            have c2b := fun o1 o2 => keepc (Gr.al (Gr.dr (Gr.al Gr.rfl' o1)) o2) c2
            have c2c := fun o1 o2 => keepc (Gr.al (Gr.al Gr.rfl' o1) o2) c2
            have hcv := conv3 wr n k
            have hks := key3_size n k
            have Hh := Lib.hid (hash_calls (key3 n k) (by omega))
            go_region_law (first
              | (refine step_append_lies _ (by rfl) _ _ 54 (by rfl) w.heap.size 59 j0 (.agg #[.int .u64 0, .int .i64 0]) 2 16 Try.underlying54 hj hy0 hy1 hy2 rfl (by decide) _ ps'.length (encPs ps') (by rfl) ((Hown.out.alloc _).alloc _) ⟨wr.heap.size + 1, 0, none⟩ 1 1 [.int .u64 (hashS (key3 n k)), .int .i64 (n : Int)] (by rfl) rfl (news_at (wr.heap.size + 1) (by simp)) (by intro u hu; simp only [List.mem_cons, List.not_mem_nil, or_false] at hu; rcases hu with rfl | rfl <;> rfl) (by decide) (by unfold maxLen; omega) (by omega) (by simp; omega) _ rfl ?_; intro g cap w5 hown5 hgrow5 hat5 hlt5; obtain ⟨_, _, d2, f2⟩ := rg_at (w := (wr.alloc (.cells #[.int .u8 110, .int .u8 (IntKind.u8.wrap n), .int .u8 (IntKind.u8.wrap k)] 5)).drew) ((Below.heap_alloc wr _ _ (Array.getElem?_eq_some_iff.1 b1).1).trans b1) (Hown.out.alloc _) (by decide) hgrow5)
              | (go_simp; go_at_call 10; refine (Hh.out _).mono ?_; rintro e w' ⟨rfl, rfl⟩))
            all_goals
              have Y1 : ((wr.alloc (.cells #[.int .u8 110, .int .u8 (IntKind.u8.wrap n), .int .u8 (IntKind.u8.wrap k)] 5)).drew.alloc (.cells #[.int .u64 (hashS (key3 n k)), .int .i64 (n : Int)] 59)).heap[w.heap.size]? = some (.cells #[.int .i64 ep, vn', .slice pa ps'.length pc] 56 (0, 0)) :=
                (Below.heap_alloc _ _ _ (by simp; omega)).trans ((Below.heap_alloc wr _ _ (Array.getElem?_eq_some_iff.1 b1).1).trans b1)
              have hP2 := rg_putP (ps := ps') (ps' := ps' ++ [ptAt n k]) h0 Y1 ((o2.alloc _).alloc _) ((Hown.out.alloc _).alloc _) hgrow5 (own_cast hown5 (by simp) (by rw [encPs_snoc]; rfl))
              have hG2 := Gr.sc (gr_gb ((((Gr.al hgx (.cells #[.int .u8 110, .int .u8 (IntKind.u8.wrap n), .int .u8 (IntKind.u8.wrap k)] 5)).dr).al (.cells #[.int .u64 (hashS (key3 n k)), .int .i64 (n : Int)] 59))) hgrow5 (fun j hj => (Hown.out.lt j hj).1)) (p := ⟨w.heap.size, 2, none⟩) (Nat.le_refl _) (.slice (some ⟨g, 0, none⟩) (ps'.length + 1) cap)
              go_wp2_with fail
              go_roundw
              case rel => exact ⟨k + 1, by omega, by go_num, by rw [Hsuc.out, ← List.append_assoc, hps']; exact hP2, hG2⟩
              case measure => simp [intOf]; omega
          · have hk9 : k = 8 := by omega
            subst hk9
            have e8 := H8.out rfl
            have hrr : RG w.heap.size w.heap.size ep (nodesTo l (n + 1)) ps' wr := ⟨h0, vn', vp', b1, o2, o3⟩
            rw [e8] at hrr
            clear b1 o2 o3
            go_wp2_with fail
            go_roundw
            case rel => exact ⟨n + 1, by omega, by go_num, hrr, hgx⟩
            case measure => simp [intOf]; omega
      · have hd : decide ((n : Int) ∈ l) = false := decide_eq_false hmem
        have HN := Lib.hid (nodesTo_no hmem)
        clear hmem
        go_wp2_with fail
        refine (Hcon.out _ _ hg).mono ?_
        rintro e wq ⟨rfl, rfl⟩
        rw [hd]
        go_wp2_with fail
        go_roundw
        case rel => exact ⟨n + 1, by omega, by go_num, by rw [HN.out]; exact hr, hg⟩
        case measure => simp [intOf]; omega
--]]
    · obtain rfl : n = 16 := by omega
      obtain ⟨h0, vn, vp, b1, o2, o3⟩ := hr
      obtain ⟨pa, pc, hvp⟩ := own_slice o3
      by_cases hz : (rawPts (nodesTo l 16)).length = 0
      · have c2 : wr.cell? ⟨w.heap.size, 2, none⟩ = some vp := by rw [cell_of_row _ w.heap.size 2 _ _ _ b1]; rfl
        rw [hvp, hz] at c2
        have hnil := List.length_eq_zero_iff.1 hz
        have hs := fun W => AnyF.slices_SortFunc_none sortS pa pc (.func (.func 27) #[] #[]) W
        have Hs := Lib.hid (show ∀ W, Calls Try.prog 26 #[.slice pa 0 pc, .func (.func 27) #[] #[]] W fun e w' => e = .returned (.tuple #[]) ∧ w' = W from hs)
        have hfin : IsPts (nodesTo l 16) (rawPts (nodesTo l 16)) ∧ RG w.heap.size w.heap.size ep (nodesTo l 16) (rawPts (nodesTo l 16)) wr := ⟨⟨List.Perm.refl _, by rw [hnil]; exact List.Pairwise.nil⟩, h0, vn, vp, b1, o2, o3⟩
        have Hfin := Lib.hid hfin
        clear hs hfin hz hnil b1 o2 o3 hvp hps
        go_wp2_with fail
        refine (Hs.out _).mono ?_
        rintro e wq ⟨rfl, rfl⟩
        go_wp2_with fail
        go_ret
        exact ⟨_, _, rfl, Hfin.out.1, Hfin.out.2, hg⟩
      · obtain ⟨g, gc, hvg, hgb, hgl⟩ := own_at o3 (by omega)
        subst hvg
        have c2 : wr.cell? ⟨w.heap.size, 2, none⟩ = some (.slice (some ⟨g, 0, none⟩) (rawPts (nodesTo l 16)).length gc) := by rw [cell_of_row _ w.heap.size 2 _ _ _ b1]; rfl
        have hs := sort_calls (rawPts (nodesTo l 16)) (by omega) g gc w.heap.size wr o3 hgl
        have Hs := Lib.hid hs
        have hk2 : ∀ (ps : List Pt) (w' : World), w'.ownsRow w.heap.size 59 2 (.slice (some ⟨g, 0, none⟩) (rawPts (nodesTo l 16)).length gc) (rawPts (nodesTo l 16)).length (encPs ps) → ps.Perm (rawPts (nodesTo l 16)) → wr.grownBy w' (some g) → RG w.heap.size w.heap.size ep (nodesTo l 16) ps w' ∧ Gr w w' := by
          intro ps w' ho hp hgr
          have n1 := own_not o3 b1 (by decide)
          refine ⟨⟨h0, vn, _, (hgr.block _ (Array.getElem?_eq_some_iff.1 b1).1 (fun e => n1 e.symm)).trans b1, o2.kept hgr ?_, by rw [hp.length_eq]; exact ho⟩, gr_gb hg hgr (fun j hj => by cases hj; exact hgb)⟩
          rcases hv : vn.ownBlock with _ | j
          · exact .inl rfl
          · exact .inr (fun e => own_ne o2 o3 (by decide) hv e.symm)
        have Hk2 := Lib.hid hk2
        clear hs hk2 b1 o2 o3 hvp hps hz
        go_wp2_with fail
        refine Hs.out.mono ?_
        rintro e wq ⟨rfl, ps, hp, hso, ho, hgr⟩
        obtain ⟨r1, r2⟩ := Hk2.out ps wq ho hp hgr
        have Hall := Lib.hid (And.intro hp (And.intro hso (And.intro r1 r2)))
        clear hp hso ho hgr r1 r2
        go_wp2_with fail
        go_ret
        exact ⟨_, ps, rfl, ⟨Hall.out.1, Hall.out.2.1⟩, Hall.out.2.2.1, Hall.out.2.2.2⟩
end Go.Proofs.Ytomhdkppgfcaaaa
