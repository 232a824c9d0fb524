/- Lists of points: IndexFunc, DeleteFunc, at any function that is asked. -/
import Derived.Test.YtpnpnjfflblkpaaDfP
namespace Go.Proofs.Ytpnpnjfflblkpaa
open Go.RowKit Go.Maps Go.Sort

/-- clear(x[a:]) of a row of the call's own. -/
theorem wpList_clear_own {P : Program} {α : Type} {enc : α → List Value} {k : Nat} (hk : ∀ x, (enc x).length = k) (hk0 : 0 < k)
    {w : World} {ops : Array Oper} {rest : List Oper} {o : Oper} {a : Act} {Q : Exit → Act → World → Prop} (hgd : o.guard = none) (x : Operand) (t e : TypeId) (ho : o.op = .call { callee := .builtin .clear, args := #[x], argTypes := #[t] })
    (z : Value) (ht : P.underlying t = some (.slice e)) (hv : ∀ w, (zeroValue e).run P w = .ok z w) (hz : z.cells.size = k) (h1 : ∀ v ∈ z.cells.toList, v.oneCell' = true)
    (base g n c i c2 : Nat) (X : List α) (hX : X.length = n) (hown : w.ownsRow base e k (.slice (some ⟨g, 0, none⟩) n c) n (X.flatMap enc)) (hi : i < n) (hx : a.eval x = .slice (some ⟨g, i * k, none⟩) (n - i) c2)
    (h : ∀ w', w'.ownsRow base e k (.slice (some ⟨g, 0, none⟩) i c) i ((X.take i).flatMap enc) → w.grownBy w' (some g) → wpList P ops Q rest (a.put o.dst (.tuple #[])) w') : wpList P ops Q (o :: rest) a w := by
  rcases hown.2 with ⟨h2, _⟩ | ⟨g', cap', cur, hv2, hb, hg, hn, hm, hs, hta⟩
  · cases h2
  · simp only [Value.slice.injEq, Option.some.injEq, Addr.mk.injEq] at hv2
    obtain ⟨⟨rfl, _⟩, _, rfl⟩ := hv2
    have hzl : (Builtin.zeroCells z.cells (n - i)).toList.length = (n - i) * k := by simp [size_zeroCells, hz, Nat.mul_comm]
    have hle : n * k ≤ cur.size := by rw [hs]; exact Nat.mul_le_mul_right _ hn
    have hmul : i * k + (n - i) * k = n * k := by rw [← Nat.add_mul]; congr 1; omega
    have hst := run_storeCells_at P g (i * k) e (Builtin.zeroCells z.cells (n - i)).toList 0 cur w hg (by rw [hzl]; omega) (fun v hv3 => by
      have hm3 : v ∈ Builtin.zeroCells z.cells (n - i) := by simpa using hv3
      obtain ⟨j, hj, rfl⟩ := Array.getElem_of_mem hm3
      refine h1 _ ?_
      have hlt : j % z.cells.size < z.cells.size := Nat.mod_lt _ (by omega)
      have : (Builtin.zeroCells z.cells (n - i))[j] = z.cells[j % z.cells.size] := by simp [Builtin.zeroCells, hlt]
      rw [this]
      simp)
    simp only [Nat.add_zero] at hst
    have hm1 : (n - i : Nat) ≠ 0 := by omega
    have hrun : ∀ ty, (Builtin.clear_ #[t] ty #[.slice (some ⟨g, i * k, none⟩) (n - i) c2]).run P w = .ok (.tuple #[]) (w.setRow g (cur.toList.take (i * k) ++ (Builtin.zeroCells z.cells (n - i)).toList ++ cur.toList.drop (i * k + (Builtin.zeroCells z.cells (n - i)).toList.length)).toArray) := fun ty => by
      obtain ⟨m, em⟩ : ∃ m, n - i = m + 1 := ⟨n - i - 1, by omega⟩
      rw [em] at hst ⊢
      simp [Builtin.clear_, run_underlying ht, hv, hst]
    have hown' : (w.setRow g (cur.toList.take (i * k) ++ (Builtin.zeroCells z.cells (n - i)).toList ++ cur.toList.drop (i * k + (Builtin.zeroCells z.cells (n - i)).toList.length)).toArray).ownsRow base e k (.slice (some ⟨g, 0, none⟩) i c) i ((X.take i).flatMap enc) := by
      refine ⟨by rw [flat_len hk, List.length_take]; congr 1; omega, .inr ⟨g, c, _, rfl, hb, setRow_heap w g cur _ e _ hg, by omega, hm, ?_, ?_⟩⟩
      · rw [List.size_toArray, List.length_append, List.length_append, List.length_take, List.length_drop, hzl, Array.length_toList]
        omega
      · show (cur.toList.take (i * k) ++ (Builtin.zeroCells z.cells (n - i)).toList ++ cur.toList.drop (i * k + (Builtin.zeroCells z.cells (n - i)).toList.length)).take (i * k) = _
        rw [List.append_assoc, List.take_left' (by rw [List.length_take, Array.length_toList]; omega), flat_take hk]
        have h5 : (cur.toList.take (n * k)).take (i * k) = (X.flatMap enc).take (i * k) := by rw [hta]
        rwa [List.take_take, Nat.min_eq_left (by omega)] at h5
    have hgr' : w.grownBy (w.setRow g (cur.toList.take (i * k) ++ (Builtin.zeroCells z.cells (n - i)).toList ++ cur.toList.drop (i * k + (Builtin.zeroCells z.cells (n - i)).toList.length)).toArray) (some g) :=
      ⟨rfl, rfl, rfl, by simp, fun j _ hj => setRow_other w g j _ (fun e => hj (by simp [e]))⟩
    generalize w.setRow g (cur.toList.take (i * k) ++ (Builtin.zeroCells z.cells (n - i)).toList ++ cur.toList.drop (i * k + (Builtin.zeroCells z.cells (n - i)).toList.length)).toArray = w' at hrun hown' hgr'
    refine wpList_plain hgd fun K hK => ?_
    unfold Oper.wp
    simp [execOp, ho, resolve, invoke, builtin, hx, hrun o.type, Result.andThen]
    exact hK _ _ (h _ hown' hgr')
def fidx (P : Pt → Bool) (l : List Pt) : Int := if l.findIdx P < l.length then (l.findIdx P : Int) else -1
theorem fidx_at {P : Pt → Bool} {l : List Pt} {i : Nat} (h : i < l.length) (h1 : P l[i] = true) (h2 : ∀ j (hj : j < l.length), j < i → P l[j] = false) : fidx P l = (i : Int) := by
  have e : l.findIdx P = i := (List.findIdx_eq h).2 ⟨h1, fun j hj => h2 j (by omega) hj⟩
  unfold fidx; rw [e, if_pos h]
theorem fidx_no {P : Pt → Bool} {l : List Pt} (h2 : ∀ j (hj : j < l.length), P l[j] = false) : fidx P l = -1 := by
  have e : ¬ l.findIdx P < l.length := fun h => by
    have := List.findIdx_getElem (w := h)
    rw [h2 _ h] at this; cases this
  unfold fidx; rw [if_neg e]
set_option maxRecDepth 100000 in
set_option maxHeartbeats 4000000 in
theorem idxf_calls (cn : Nat) (cb : Array Value) (eg : ∀ args w, (callFunc cn args).run Try.prog w = .ok (.enter cn args) w) (P : Pt → Bool) (v : Value) (l : List Pt) (w : World) (hv : rdRow w 6 v l.length (encP l)) (hk : l.length ≤ 1000000)
    (hcl : ∀ W x, Gr w W → Calls Try.prog cn (#[ptV x] ++ cb) W fun e w' => e = .returned (.bool (P x)) ∧ Gr W w') :
    Calls Try.prog 64 #[v, .func (.func cn) #[] cb] w fun e w' => e = .returned (.int .i64 (fidx P l)) ∧ Gr w w' := by
  obtain ⟨a, c, rfl⟩ : ∃ a c, v = .slice a l.length c := by obtain ⟨_, a, c, e, _⟩ := hv; exact ⟨a, c, e⟩
  have H := Lib.hid hv
  have HC := Lib.hid hcl
  have HA := Lib.hid (fun i => @fidx_at P l i)
  have HN0 := Lib.hid (@fidx_no P l)
  generalize fidx P l = R at *
  clear hv hcl
  go_enter Try.func64, Try.ntmps64
  go_wp2_with fail
  go_loopw [8] (fun iv wr => ∃ i : Nat, i ≤ l.length ∧ iv = .int .i64 i ∧ Hid (∀ j (hj : j < l.length), j < i → P l[j] = false) ∧ Hid (Gr w wr)) (fun iv _ => l.length - (intOf iv).toNat)
  case atStart => exact ⟨0, Nat.zero_le _, rfl, Lib.hid (fun j hj h => absurd h (by omega)), Lib.hid Gr.rfl'⟩
  case round =>
    obtain ⟨i, hi, rfl, HN, HG⟩ := hrel
    by_cases hlt : i < l.length
    · have hlt' : (i : Int) < l.length := by omega
      obtain ⟨bl, ol, _, e1, _, hrg⟩ := rd_range ptC 6 pt_len6 (H.out.gr HG.out) (by omega)
      replace e1 := (Value.slice.inj e1).1
      subst e1
      have Hq := Lib.hid (hrg i hlt)
      have HAi := Lib.hid (HA.out i hlt)
      have HNi := Lib.hid (show P l[i] = false → ∀ j (hj : j < l.length), j < i + 1 → P l[j] = false from fun hp j hj h => by
        by_cases e : j = i
        · subst e; exact hp
        · exact HN.out j hj (by omega))
      obtain ⟨q, eq⟩ : ∃ q, l[i] = q := ⟨_, rfl⟩
      rw [eq] at Hq HAi HNi
      clear hrg eq
      have HCq := Lib.hid (HC.out wr q HG.out)
      obtain ⟨d, ed⟩ : ∃ d, P q = d := ⟨_, rfl⟩
      have Hd := Lib.hid ed
      rw [ed] at HCq
      clear ed
      cases d with
      | true =>
        go_wp2_with (first | (refine wpList_load_mid rfl 26 (.tmp 14) rfl bl (ol + i * 6) rfl (ptC q) _ Hq.out Try.underlying26 rfl info_pt ?_) | (go_at_fn cn; refine HCq.out.mono ?_; rintro e w3 ⟨rfl, hg3⟩; have HG3 := Lib.hid (HG.out.tr hg3); clear hg3))
        have HR := Lib.hid (HAi.out Hd.out HN.out)
        go_ret
        exact ⟨by rw [HR.out]; rfl, HG3.out⟩
      | false =>
        go_wp2_with (first | (refine wpList_load_mid rfl 26 (.tmp 14) rfl bl (ol + i * 6) rfl (ptC q) _ Hq.out Try.underlying26 rfl info_pt ?_) | (go_at_fn cn; refine HCq.out.mono ?_; rintro e w3 ⟨rfl, hg3⟩; have HG3 := Lib.hid (HG.out.tr hg3); clear hg3))
        have HN2 := Lib.hid (HNi.out Hd.out)
        go_roundw
        case rel => exact ⟨i + 1, by omega, by go_num, HN2, HG3⟩
        case measure => simp [intOf]; omega
    · obtain rfl : i = l.length := by omega
      have HR := Lib.hid (HN0.out (fun j hj => HN.out j hj hj))
      clear hlt
      go_wp2_with fail
      go_ret
      exact ⟨by rw [HR.out]; rfl, HG.out⟩
set_option maxRecDepth 100000 in
set_option maxHeartbeats 8000000 in
theorem delp_calls (cn : Nat) (cb : Array Value) (eg : ∀ args w, (callFunc cn args).run Try.prog w = .ok (.enter cn args) w) (P : Pt → Bool) (v : Value) (l : List Pt) (base : Nat) (w : World) (hv : w.ownsRow base 26 6 v l.length (encP l)) (hk : l.length ≤ 1000000)
    (hcl : ∀ W x, Bt (fun k => v.ownBlock = some k) w W → Calls Try.prog cn (#[ptV x] ++ cb) W fun e w' => e = .returned (.bool (P x)) ∧ Gr W w') :
    Calls Try.prog 48 #[v, .func (.func cn) #[] cb] w fun e w' => ∃ v', e = .returned v' ∧ w'.ownsRow base 26 6 v' (l.filter fun x => !P x).length (encP (l.filter fun x => !P x)) ∧ Bt (fun k => v.ownBlock = some k) w w' := by
  have HI := Lib.hid (idxf_calls cn cb eg P v l w (rdRow_of_own hv) hk (fun W x hg => hcl W x (.of hg)))
  by_cases hn : ∀ j (hj : j < l.length), P l[j] = false
  · have hf : (l.filter fun x => !P x) = l := List.filter_eq_self.2 fun x hx => by
      obtain ⟨j, hj, rfl⟩ := List.getElem_of_mem hx
      simp [hn j hj]
    rw [hf]
    rw [fidx_no hn] at HI
    have HV := Lib.hid hv
    clear hv hcl hf hn
    go_enter Try.func48, Try.ntmps48
    go_wp2_with fail
    refine HI.out.mono ?_
    rintro e w3 ⟨rfl, hg3⟩
    have HV3 := Lib.hid (own_gr HV.out hg3)
    have HG3 := Lib.hid hg3
    clear hg3
    go_wp2_with fail
    go_ret
    exact ⟨_, rfl, HV3.out, .of HG3.out⟩
  · obtain ⟨i0, hi0, hp0, hb0⟩ : ∃ i, ∃ h : i < l.length, P l[i] = true ∧ ∀ j (hj : j < l.length), j < i → P l[j] = false := by
      have hlt : l.findIdx P < l.length := by
        refine List.findIdx_lt_length_of_exists ?_
        refine Classical.byContradiction fun hne => hn fun j hj => ?_
        cases h : P l[j] with
        | false => rfl
        | true => exact absurd ⟨l[j], List.getElem_mem hj, h⟩ hne
      exact ⟨l.findIdx P, hlt, List.findIdx_getElem, fun j hj h => by
        have := List.not_of_lt_findIdx h
        simpa using this⟩
    rw [fidx_at hi0 hp0 hb0] at HI
    obtain ⟨g, c, rfl, hgb, hgw⟩ := own_at hv (by omega)
    have hlc : l.length ≤ c := by obtain ⟨_, a, c', e, h, _⟩ := rdRow_of_own hv; cases e; exact h
    have H0 := Lib.hid (show l.take i0 = (l.take (i0 + 1)).filter fun x => !P x from by
      rw [List.take_succ_eq_append_getElem hi0, List.filter_append]
      have e1 : ([l[i0]].filter fun x => !P x) = [] := by simp [hp0]
      rw [e1, List.append_nil]
      refine (List.filter_eq_self.2 fun x hx => ?_).symm
      obtain ⟨j, hj, rfl⟩ := List.getElem_of_mem hx
      rw [List.length_take] at hj
      rw [List.getElem_take]
      simp [hb0 j (by omega) (by omega)])
    have HV := Lib.hid hv
    have HC := Lib.hid hcl
    have HF := Lib.hid (show (l.take l.length).filter (fun x => !P x) = l.filter fun x => !P x by rw [List.take_length])
    have Hgw := Lib.hid hgw
    clear hn hp0 hb0 hgb hv hcl hgw
    go_enter Try.func48, Try.ntmps48
    go_wp2_with fail
    refine HI.out.mono ?_
    rintro e w3 ⟨rfl, hg3⟩
    have HV3 := Lib.hid (own_gr HV.out hg3)
    have HG3 := Lib.hid (show Bt (fun k => (Value.slice (some ⟨g, 0, none⟩) l.length c).ownBlock = some k) w w3 from .of hg3)
    have hne : ((i0 : Int) == -1) = false := by simp <;> omega
    clear hg3
    go_wp2_with fail
    go_loopw [5, 6] (fun av jv wr => ∃ (ia j : Nat) (X : List Pt), av = .int .i64 ia ∧ jv = .int .i64 j ∧ ia < j ∧ j ≤ l.length ∧ Hid (X.length = l.length) ∧ Hid (X.take ia = (l.take j).filter fun x => !P x) ∧ Hid (X.drop j = l.drop j) ∧ Hid (wr.ownsRow base 26 6 (.slice (some ⟨g, 0, none⟩) l.length c) l.length (encP X)) ∧ Hid (Bt (fun k => (Value.slice (some ⟨g, 0, none⟩) l.length c).ownBlock = some k) w wr)) (fun _ jv _ => l.length - (intOf jv).toNat)
    case atStart => exact ⟨i0, i0 + 1, l, rfl, by go_num, by omega, by omega, Lib.hid rfl, H0, Lib.hid rfl, HV3, HG3⟩
    case round =>
      obtain ⟨ia, j, X, rfl, rfl, haj, hjl, HX, HT, HD, HO, HB⟩ := hrel
      clear HV3 HG3
      by_cases hlt : j < l.length
      · have hlt' : (j : Int) < l.length := by omega
        have hXj : j < X.length := by rw [HX.out]; exact hlt
        have hcell : wr.rangeAt g (j * 6) (ptC X[j]) := fun m u hu => by
          have hm : m < 6 := (List.getElem?_eq_some_iff.1 hu).1
          have := HO.out.cells (g := g) rfl (j * 6 + m) u (by rw [show encP X = X.flatMap ptC from rfl, flat_get ptC 6 pt_len6 X j hXj m hm]; exact hu)
          rwa [Addr.add_mid, Nat.zero_add] at this
        have Hq := Lib.hid hcell
        have hlj : X[j] = l[j] := by
          have h1 := HD.out
          rw [List.drop_eq_getElem_cons hXj, List.drop_eq_getElem_cons hlt] at h1
          exact (List.cons.inj h1).1
        have HD2 := Lib.hid (show X.drop (j + 1) = l.drop (j + 1) by
          have h1 := HD.out
          rw [List.drop_eq_getElem_cons hXj, List.drop_eq_getElem_cons hlt] at h1
          exact (List.cons.inj h1).2)
        have HT2 := Lib.hid (show (l.take (j + 1)).filter (fun x => !P x) = X.take ia ++ if P l[j] then [] else [l[j]] by
          rw [List.take_succ_eq_append_getElem hlt, List.filter_append, HT.out]
          cases h : P l[j] <;> simp [h])
        rw [hlj] at Hq
        obtain ⟨q, eq⟩ : ∃ q, l[j] = q := ⟨_, rfl⟩
        rw [eq] at Hq HT2
        clear hcell hlj eq
        go_upto_region 8 with (first | (refine wpList_load_mid rfl 26 (.tmp 24) rfl g (j * 6) rfl (ptC q) _ Hq.out Try.underlying26 rfl info_pt ?_))
        obtain ⟨w4, e4, hg4, b4, s4⟩ := al_out wr (.cells #[.string q.s, .int .i64 q.t, .int .i64 q.v, .int .i64 q.c, .int .i64 q.st, .int .i64 q.q] 26)
        rw [e4]
        obtain ⟨A, eA⟩ : ∃ A, wr.heap.size = A := ⟨_, rfl⟩
        rw [eA] at b4
        (try rw [eA])
        have B4 := Lib.hid b4
        have HO4 := Lib.hid (own_gr HO.out hg4)
        have HB4 := Lib.hid (HB.out.tr (.of hg4))
        have HCq := Lib.hid (HC.out w4 q HB4.out)
        obtain ⟨d, ed⟩ : ∃ d, P q = d := ⟨_, rfl⟩
        rw [ed] at HCq HT2
        clear e4 hg4 b4 s4 eA ed
        cases d with
        | true =>
          go_wp2_with (first | (refine wpList_load_rowg (by rfl) 26 (.tmp 7) rfl A rfl _ (ptC q).toArray (0, 0) _ B4.out Try.underlying26 rfl info_pt ?_) | (go_at_fn cn; refine HCq.out.mono ?_; rintro e w5 ⟨rfl, hg5⟩; have HO5 := Lib.hid (own_gr HO4.out hg5); have HB5 := Lib.hid (HB4.out.tr (.of hg5)); clear hg5))
          go_roundw
          case rel => exact ⟨ia, j + 1, X, rfl, by go_num, by omega, by omega, HX, Lib.hid (by rw [HT2.out]; simp), HD2, HO5, HB5⟩
          case measure => simp [intOf]; omega
        | false =>
          have hia : ia < X.length := by omega
          have EX := Lib.hid (show X = X.take ia ++ [X[ia]] ++ X.drop (ia + 1) by rw [List.take_append_getElem, List.take_append_drop])
          obtain ⟨x0, ex0⟩ : ∃ x, X[ia] = x := ⟨_, rfl⟩
          rw [ex0] at EX
          have HTl := Lib.hid (show (X.take ia).length = ia by rw [List.length_take]; omega)
          clear ex0
          go_upto_region 9 with (first | (refine wpList_load_rowg (by rfl) 26 (.tmp 7) rfl A rfl _ (ptC q).toArray (0, 0) _ B4.out Try.underlying26 rfl info_pt ?_) | (go_at_fn cn; refine HCq.out.mono ?_; rintro e w5 ⟨rfl, hg5⟩; have HO5 := Lib.hid (own_gr HO4.out hg5); have HB5 := Lib.hid (HB4.out.tr (.of hg5)); have B5 := Lib.hid (hg5.blk B4.out); clear hg5))
          have hO := HO5.out
          rw [show (Value.slice (some ⟨g, 0, none⟩) l.length c) = .slice (some ⟨g, 0, none⟩) (X.take ia ++ [x0] ++ X.drop (ia + 1)).length c by rw [← EX.out, HX.out], show l.length = (X.take ia ++ [x0] ++ X.drop (ia + 1)).length by rw [← EX.out, HX.out], show encP X = (X.take ia ++ [x0] ++ X.drop (ia + 1)).flatMap ptC by rw [← EX.out]] at hO
          have hset := own_setk (enc := fun x : Pt => ptC x) (k := 6) pt_len6 q hO
          rw [HTl.out] at hset
          have Hset := Lib.hid hset
          have Hth := Lib.hid (show w5.there g (ia * 6) 6 from hset.2.2)
          clear hO hset
          go_wp2_with (first | (refine wpList_load_rowg (by rfl) 26 (.tmp 7) rfl A rfl _ (ptC q).toArray (0, 0) _ B5.out Try.underlying26 rfl info_pt ?_) | (refine wpList_store_mid rfl 26 (.tmp 33) (.tmp 32) rfl g (ia * 6) (ptC q).toArray rfl rfl Hth.out info_pt (all_oneCell_toArray (pt_one6 q)) ?_; refine Hid.out ?_))
          apply Lib.hid
          have HX' := Lib.hid (show (X.take ia ++ [q] ++ X.drop (ia + 1)).length = l.length by
            have h1 := congrArg List.length EX.out
            have h2 := HX.out
            simp only [List.length_append, List.length_singleton] at h1 ⊢
            omega)
          have HO6 := Lib.hid (show (w5.setCells g (ia * 6) (ptC q)).ownsRow base 26 6 (.slice (some ⟨g, 0, none⟩) l.length c) l.length (encP (X.take ia ++ [q] ++ X.drop (ia + 1))) by
            have h1 := Hset.out.1
            rw [HX'.out] at h1
            exact h1)
          have HB6 := Lib.hid (HB5.out.tr (Bt.row (X := fun k => (Value.slice (some ⟨g, 0, none⟩) l.length c).ownBlock = some k) Hset.out.2.1 rfl))
          have HT6 := Lib.hid (show (X.take ia ++ [q] ++ X.drop (ia + 1)).take (ia + 1) = (l.take (j + 1)).filter fun x => !P x by
            rw [HT2.out, List.take_left' (by simp [HTl.out])]; simp)
          have HD6 := Lib.hid (show (X.take ia ++ [q] ++ X.drop (ia + 1)).drop (j + 1) = l.drop (j + 1) by
            rw [← HD2.out, List.drop_append, List.drop_eq_nil_of_le (by simp [HTl.out]; omega), List.nil_append, List.drop_drop]
            congr 1
            simp [HTl.out]; omega)
          generalize X.take ia ++ [q] ++ X.drop (ia + 1) = X' at HX' HO6 HT6 HD6
          show wpList _ _ _ _ _ (w5.setCells g (ia * 6) (ptC q))
          generalize w5.setCells g (ia * 6) (ptC q) = w6 at HO6 HB6 ⊢
          clear Hset Hth HO5 HB5 B5
          go_wp2_with fail
          go_roundw
          case rel => exact ⟨ia + 1, j + 1, X', by go_num, by go_num, by omega, by omega, HX', HT6, HD6, HO6, HB6⟩
          case measure => simp [intOf]; omega
      · obtain rfl : j = l.length := by omega
        clear hlt
        rw [HF.out] at HT
        have HFl := Lib.hid (show (l.filter fun x => !P x).length = ia by rw [← HT.out, List.length_take]; have := HX.out; omega)
        obtain ⟨FL, eFL⟩ : ∃ FL, (l.filter fun x => !P x) = FL := ⟨_, rfl⟩
        rw [eFL] at HT HFl
        have EFL := Lib.hid eFL
        clear eFL
        have hca : ¬ c = ia := by omega
        have hcz : ia ≤ c := by omega
        go_wp2_with (refine wpList_clear_own (enc := fun x : Pt => ptC x) (k := 6) pt_len6 (by decide) rfl (.tmp 38) 37 26 rfl _ Try.underlying37 Try.zeroValue26 rfl (fun v hv => pt_one6 ⟨⟨#[]⟩, 0, 0, 0, 0, 0⟩ v hv) base g l.length c ia _ X HX.out HO.out (by omega) rfl (fun w9 ho9 hg9 => ?_); have HO9 := Lib.hid ho9; have HG9 := Lib.hid hg9; clear ho9 hg9)
        have HB9 := Lib.hid (HB.out.tr (Bt.row (X := fun k => (Value.slice (some ⟨g, 0, none⟩) l.length c).ownBlock = some k) HG9.out rfl))
        go_ret
        refine ⟨_, rfl, ?_, HB9.out⟩
        have h9 := HO9.out
        rw [HT.out] at h9
        rw [EFL.out, HFl.out]
        exact h9
end Go.Proofs.Ytpnpnjfflblkpaa
