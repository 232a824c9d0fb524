/- The ring: who is preferred. -/
import Derived.Test.YtomhdkppgfcaaaaRgF
import Derived.Test.YtomhdkppgfcaaaaRgG
import Derived.WalkMore
namespace Go.Proofs.Ytomhdkppgfcaaaa
open Go.RowKit

/-- A ring as it is read. -/
def RD (w : World) (p : Nat) (ep : Int) (ns : List Int) (ps : List Pt) : Prop :=
  ∃ vn vp, w.cell? ⟨p, 0, none⟩ = some (.int .i64 ep) ∧ w.cell? ⟨p, 1, none⟩ = some vn ∧ w.cell? ⟨p, 2, none⟩ = some vp ∧ rdRow w 1 vn ns.length (encI ns) ∧ rdRow w 2 vp ps.length (encPs ps)
theorem RD.gr {w w1 : World} {p : Nat} {ep : Int} {ns : List Int} {ps : List Pt} (h : RD w p ep ns ps) (hg : Gr w w1) : RD w1 p ep ns ps := by
  obtain ⟨vn, vp, h0, h1, h2, h3, h4⟩ := h
  exact ⟨vn, vp, keepc hg h0, keepc hg h1, keepc hg h2, h3.gr hg, h4.gr hg⟩
theorem RG.rd {base p : Nat} {ep : Int} {ns : List Int} {ps : List Pt} {w : World} (h : RG base p ep ns ps w) : RD w p ep ns ps := by
  obtain ⟨_, vn, vp, h1, h2, h3⟩ := h
  exact ⟨vn, vp, by rw [cell_of_row _ p 0 _ _ _ h1]; rfl, by rw [cell_of_row _ p 1 _ _ _ h1]; rfl, by rw [cell_of_row _ p 2 _ _ _ h1]; rfl, rdRow_of_own h2, rdRow_of_own h3⟩
def prefStep (most : Int) (out : List Int) (n : Int) : List Int := if most ≤ out.length ∨ n ∈ out then out else out ++ [n]
def rot (ps : List Pt) (L : Nat) : List Pt := ps.drop L ++ ps.take L
def prefTo (ps : List Pt) (h most : Int) (i : Nat) : List Int := (((rot ps (lo ps h)).take i).map (·.2)).foldl (prefStep most) []
def prefer (ps : List Pt) (h most : Int) : List Int := prefTo ps h most ps.length
theorem rot_len (ps : List Pt) {L : Nat} (hL : L ≤ ps.length) : (rot ps L).length = ps.length := by simp [rot]; omega
theorem rot_get {ps : List Pt} {L i : Nat} (hL : L ≤ ps.length) (hi : i < ps.length) : (rot ps L)[i]'(by rw [rot_len ps hL]; exact hi) = ps[(L + i) % ps.length]'(Nat.mod_lt _ (by omega)) := by
  unfold rot
  by_cases h : i < ps.length - L
  · rw [List.getElem_append_left (by simpa using h), List.getElem_drop]
    congr 1
    rw [Nat.mod_eq_of_lt (by omega)]
  · rw [List.getElem_append_right (by simp; omega), List.getElem_take]
    congr 1
    have : L + i = (L + i - ps.length) + ps.length := by omega
    rw [this, Nat.add_mod_right, Nat.mod_eq_of_lt (by omega)]
    simp; omega
theorem prefTo_succ {ps : List Pt} {h most : Int} {i : Nat} (hi : i < ps.length) : prefTo ps h most (i + 1) = prefStep most (prefTo ps h most i) (ps[(lo ps h + i) % ps.length]'(Nat.mod_lt _ (by omega))).2 := by
  unfold prefTo
  have hl := rot_len ps (lo_le ps h)
  rw [List.take_succ_eq_append_getElem (by rw [hl]; exact hi), List.map_append, List.foldl_append, rot_get (lo_le ps h) hi]
  rfl
theorem fold_done {most : Int} : ∀ (l : List Int) (out : List Int), most ≤ out.length → l.foldl (prefStep most) out = out
  | [], _, _ => rfl
  | x :: r, out, h => by
    rw [List.foldl_cons]
    have : prefStep most out x = out := by unfold prefStep; rw [if_pos (.inl h)]
    rw [this]; exact fold_done r out h
theorem prefTo_done {ps : List Pt} {h most : Int} {i : Nat} (hd : most ≤ (prefTo ps h most i).length) (hi : i ≤ ps.length) : prefer ps h most = prefTo ps h most i := by
  have hl := rot_len ps (lo_le ps h)
  have e : ((rot ps (lo ps h)).take ps.length) = (rot ps (lo ps h)).take i ++ ((rot ps (lo ps h)).take ps.length).drop i := by
    have := (List.take_append_drop i ((rot ps (lo ps h)).take ps.length)).symm
    rwa [List.take_take, Nat.min_eq_left hi] at this
  unfold prefer
  show List.foldl _ _ (List.map _ (List.take ps.length _)) = _
  rw [e, List.map_append, List.foldl_append]
  exact fold_done _ _ hd
theorem prefTo_len (ps : List Pt) (h most : Int) : ∀ i, i ≤ ps.length → (prefTo ps h most i).length ≤ i
  | 0, _ => by simp [prefTo]
  | i + 1, hi => by
    have := prefTo_len ps h most i (by omega)
    rw [prefTo_succ (by omega)]
    unfold prefStep
    split
    · omega
    · simp; omega

set_option maxRecDepth 100000 in
set_option maxHeartbeats 4000000 in
theorem prefer_calls (p : Nat) (ep : Int) (ns : List Int) (ps : List Pt) (key : ByteArray) (most : Int) (w : World) (hr : RD w p ep ns ps) (hk : ps.length ≤ 128) (hs : ps.Pairwise leP) (hkey : key.size ≤ 1000000) :
    Calls Try.prog 14 #[.pointer (some ⟨p, 0, none⟩), .string key, .int .i64 most] w fun e w' => ∃ v', e = .returned v' ∧ w'.ownsRow w.heap.size 3 1 v' (prefer ps (hashS key) most).length (encI (prefer ps (hashS key) most)) ∧ Gr w w' := by
  obtain ⟨vn, vp, p0, p1, p2, _, hrd⟩ := hr
  have hll := lo_le ps (hashS key)
  have hbin := fun W hg => bin_calls ps (hashS key) vp W (rdRow.gr hrd hg) (by omega) hs
  have hsucc := fun i hi => prefTo_succ (ps := ps) (h := hashS key) (most := most) (i := i) hi
  have hdone := fun i hi hd => prefTo_done (ps := ps) (h := hashS key) (most := most) (i := i) hd hi
  have hplen := prefTo_len ps (hashS key) most
  have h00 : prefTo ps (hashS key) most 0 = [] := by simp [prefTo]
  have hfull : prefer ps (hashS key) most = prefTo ps (hashS key) most ps.length := rfl
  have hhash := hash_calls key hkey
  obtain ⟨_, va, vcap, rfl, hcap, hcells⟩ := hrd
  have hrd' : 0 < ps.length → ∃ b o, va = some ⟨b, o, none⟩ ∧ ∀ j (hj : j < ps.length), w.cell? ⟨b, o + j * 2 + 1, none⟩ = some (.int .i64 (ps[j]).2) := fun h0 => by
    obtain ⟨b, o, e, h3⟩ := hcells h0
    exact ⟨b, o, e, fun j hj => by have := h3 _ _ (encPs_get ps j hj).2; rwa [← Nat.add_assoc] at this⟩
  generalize prefer ps (hashS key) most = PP at *
  generalize prefTo ps (hashS key) most = F at *
  generalize lo ps (hashS key) = L at *
  generalize hashS key = hh at *
  have Hbin := Lib.hid hbin; have Hsucc := Lib.hid hsucc; have Hdone := Lib.hid hdone; have Hplen := Lib.hid hplen; have Hfull := Lib.hid hfull; have Hhash := Lib.hid hhash; have Hrd := Lib.hid hrd'
  clear hbin hsucc hdone hplen hfull hhash hrd' hcells hs p0 p1
  obtain ⟨i0, hi, hz0, hz1, hz2⟩ := info_parts infoInt
  go_enter Try.func14, Try.ntmps14
  go_wp2_with fail
  go_step3
  go_wp2_with fail
  go_region_held3 (fun w' => w'.cell? ⟨p, 2, none⟩ = some (.slice va ps.length vcap)) (first | (go_keep; done) | exact keepc hb hHeld | (exact keepc hb (by assumption)))
    (first
      | (go_at_call 10; refine (Hhash.out _).mono ?_; rintro e w' ⟨rfl, rfl⟩)
      | (go_at_call 31; refine (Hbin.out _ (by (repeat (first | exact Gr.rfl' | refine Gr.al ?_ _ | refine Gr.dr ?_ | refine Gr.drN ?_ | refine Gr.sc ?_ (by simp <;> omega) _ | refine Gr.tr ?_ (by assumption))))).mono ?_; rintro e w1 ⟨⟨fv, rfl⟩, hb⟩)
      | fail)
  have hg1 : Gr w w1 := by (repeat (first | exact Gr.rfl' | refine Gr.al ?_ _ | refine Gr.dr ?_ | refine Gr.drN ?_ | refine Gr.sc ?_ (by simp <;> omega) _ | refine Gr.tr ?_ (by assumption)))
  go_wp2_with fail
  go_step3
  go_wp2_with fail
  go_loopw [7, 29] (fun u v wr => ∃ i : Nat, i ≤ ps.length ∧ v = .int .i64 i ∧ wr.ownsRow w.heap.size 3 1 u (F i).length (encI (F i)) ∧ Gr w wr) (fun _ v _ => ps.length - (intOf v).toNat)
  case atStart => exact ⟨0, Nat.zero_le _, rfl, by rw [h00]; exact World.ownsRow_nil _ _ _ _, hg1⟩
  case round =>
    obtain ⟨i, hi1, rfl, hown, hg⟩ := hrel
    have hgz := hg.size
    obtain ⟨ua, uc, hu⟩ := own_slice hown
    subst hu
    have hpl := Hplen.out i hi1
    have q2 := keepc hg p2
    by_cases hlt : i < ps.length
    · have h1 : (i : Int) < ps.length := by omega
      by_cases hm : most ≤ (F i).length
      · have hd := Lib.hid (Hdone.out i hi1 hm)
        have Hown := Lib.hid hown; clear hown
        go_wp2_with fail
        rw [Exit.noGoto_ret]
        go_ret
        exact ⟨_, rfl, by rw [hd.out]; exact Hown.out, hg⟩
      · obtain ⟨m, hmm⟩ : ∃ m, (L + i) % ps.length = m := ⟨_, rfl⟩
        have hml : m < ps.length := by rw [← hmm]; exact Nat.mod_lt _ (by omega)
        have hmi : ((L : Int) + i) % (ps.length : Int) = (m : Int) := by rw [← hmm]; push_cast; rfl
        have hmt : ((L : Int) + i).tmod (ps.length : Int) = (m : Int) := by rw [Int.tmod_eq_emod_of_nonneg (by omega)]; exact hmi
        have hs1 := Hsucc.out i hlt
        have hidx : ∀ (h0 : (L + i) % ps.length < ps.length), (ps[(L + i) % ps.length]'h0) = ps[m]'hml := fun h0 => by simp only [hmm]
        rw [hidx] at hs1
        obtain ⟨b, o, rfl, hc⟩ := Hrd.out (by omega)
        have c0 := keepc hg (hc m hml)
        have Hs1 := Lib.hid hs1
        have Hown := Lib.hid hown
        clear hc hown hs1 hidx hmm
        generalize (ps[m]).2 = n at *
        have g0 : ¬ (ps.length : Int) = 0 := by omega
        have g1 : (0 : Int) ≤ (m : Int) := by omega
        have g2 : (m : Int) < (ps.length : Int) := by omega
        go_wp2_with fail
        go_quiet (fail)
        go_wp2_with fail
        refine (contains_calls _ (F i) n _ (rdRow_of_own (own_drN Hown.out)) (by omega)).mono ?_
        rintro e w2 ⟨rfl, rfl⟩
        by_cases hmem : n ∈ F i
        · have hd : decide (n ∈ F i) = true := decide_eq_true hmem
          have hF := Lib.hid (show F (i + 1) = F i by rw [Hs1.out]; unfold prefStep; rw [if_pos (.inr hmem)])
          rw [hd]
          clear hmem hd
          go_wp2_with fail
          go_roundw
          case rel => exact ⟨i + 1, by omega, by go_num, by rw [hF.out]; exact own_drN Hown.out, by (repeat (first | exact Gr.rfl' | refine Gr.al ?_ _ | refine Gr.dr ?_ | refine Gr.drN ?_ | refine Gr.sc ?_ (by simp <;> omega) _ | refine Gr.tr ?_ (by assumption)))⟩
          case measure => simp [intOf]; omega
        · have hd : decide (n ∈ F i) = false := decide_eq_false hmem
          have hF := Lib.hid (show F (i + 1) = F i ++ [n] by rw [Hs1.out]; unfold prefStep; rw [if_neg (by simp [hm, hmem])])
          rw [hd]
          clear hmem hd
          go_wp2_with (at_builtin; refine wpList_append_own _ rfl _ _ 27 rfl w.heap.size 3 i0 _ 1 8 Try.underlying27 hi hz0 hz1 hz2 rfl (by decide) _ _ _ rfl ((own_drN Hown.out).alloc _) ⟨wr.heap.size, 0, none⟩ 1 1 [.int .i64 n] rfl rfl (news_at wr.heap.size (by simp)) (by intro u hu; simp only [List.mem_cons, List.not_mem_nil, or_false] at hu; subst hu; rfl) (by unfold maxLen; omega) (by omega) (by simp; omega) ?_; intro v3 w3 hown3 hgrow3 _)
          go_roundw
          case rel => exact ⟨i + 1, by omega, by go_num, own_cast hown3 (by rw [hF.out]; simp) (by rw [hF.out, encI_snoc]), gr_gb (by (repeat (first | exact Gr.rfl' | refine Gr.al ?_ _ | refine Gr.dr ?_ | refine Gr.drN ?_ | refine Gr.sc ?_ (by simp <;> omega) _ | refine Gr.tr ?_ (by assumption)))) hgrow3 (fun j hj => (Hown.out.lt j hj).1)⟩
          case measure => simp [intOf]; omega
    · obtain rfl : i = ps.length := by omega
      have Hown := Lib.hid hown; clear hown
      go_wp2_with fail
      rw [Exit.noGoto_ret]
      go_ret
      exact ⟨_, rfl, by rw [Hfull.out]; exact Hown.out, hg⟩
end Go.Proofs.Ytomhdkppgfcaaaa
