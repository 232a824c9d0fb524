/- The reference's hints: Drop, Nodes. -/
import Derived.Test.YtijgbfhjimlklaaHpA
namespace Go.Proofs.Ytijgbfhjimlklaa
open Go.RowKit Go.Maps

theorem dropL_take {L : List Hk} {i : Nat} (h : i < L.length) (t : Int) : (L[i].1.t < t → dropL (L.take (i + 1)) t = dropL (L.take i) t) ∧ (¬ L[i].1.t < t → dropL (L.take (i + 1)) t = dropL (L.take i) t ++ [L[i]]) := by
  have e := List.take_succ_eq_append_getElem h
  unfold dropL
  rw [e]
  constructor <;> intro hl <;> simp [-List.take_append_getElem, List.filter_append, hl]
/-- What a call leaves that sets the list anew: L' on a row of its own. -/
def RfPost (w : World) (r N : Nat) (m : Int) (L' : List Hk) (w' : World) : Prop := ∃ v', RfAt w' r N m v' L' ∧ Bt (fun k => k = r) w w'
set_option maxRecDepth 100000 in
set_option maxHeartbeats 4000000 in
theorem rdrop_calls (w : World) (r N : Nat) (m : Int) (v : Value) (L : List Hk) (h : RfAt w r N m v L) (hL : L.length ≤ 1000) (t : Int) :
    Calls Try.prog 25 #[.pointer (some ⟨r, 0, none⟩), .int .i64 t] w fun e w' => e = .returned (.int .i64 ((L.length : Int) - (dropL L t).length)) ∧ RfPost w r N m (dropL L t) w' := by
  obtain ⟨a, c, rfl⟩ := own_slice h.row
  have H := Lib.hid h
  obtain ⟨R, eR⟩ : ∃ R, w.heap.size = R := ⟨_, rfl⟩
  have ER := Lib.hid eR
  have hrR : r < R := by have := blk_lt h.blk; omega
  have HNR := Lib.hid (show N ≤ R by have := h.pN; omega)
  clear h eR
  go_enter Try.func25, Try.ntmps25
  go_wp2_with fail
  go_loopw [5, 6] (fun lv iv wr => ∃ i : Nat, i ≤ L.length ∧ iv = .int .i64 i ∧ Hid (wr.ownsRow R 75 7 lv (dropL (L.take i) t).length (encH (dropL (L.take i) t))) ∧ Hid (Gr w wr)) (fun _ iv _ => L.length - (intOf iv).toNat)
  case atStart => exact ⟨0, Nat.zero_le _, rfl, Lib.hid (World.ownsRow_nil _ _ _ _), Lib.hid Gr.rfl'⟩
  case round =>
    obtain ⟨i, hi, rfl, HO, HG⟩ := hrel
    have c1 := (H.out.gr HG.out).c1
    obtain ⟨ua, uc, rfl⟩ := own_slice HO.out
    have hdl : (dropL (L.take i) t).length ≤ L.length := Nat.le_trans (List.length_filter_le _ _) (by rw [List.length_take]; omega)
    by_cases hlt : i < L.length
    · have hlt' : (i : Int) < L.length := by omega
      obtain ⟨bl, ol, _, e1, _, hrg⟩ := rd_range (fun y : Hk => hkC y) 7 (fun _ => rfl) (rdRow_of_own (own_gr H.out.row HG.out)) (by omega)
      replace e1 := (Value.slice.inj e1).1
      subst e1
      have Hd := Lib.hid (dropL_take hlt t)
      have Hq := Lib.hid (hrg i hlt)
      obtain ⟨q, eq⟩ : ∃ q, L[i] = q := ⟨_, rfl⟩
      rw [eq] at Hq Hd
      have cq : wr.cell? ⟨bl, ol + i * 7 + 1, none⟩ = some (.int .i64 q.1.t) := Hq.out 1 _ rfl
      clear hrg eq
      by_cases hqt : q.1.t < t
      · have hqt' : ¬ t ≤ q.1.t := by omega
        have HD2 := Lib.hid (Hd.out.1 hqt)
        go_wp2_with fail
        go_roundw
        case rel => exact ⟨i + 1, by omega, by go_num, by rw [HD2.out]; exact HO, HG⟩
        case measure => simp [intOf]; omega
      · have hqt' : t ≤ q.1.t := by omega
        have HD2 := Lib.hid (Hd.out.2 hqt)
        go_wp2_with (first | (refine wpList_load_mid rfl 75 (.tmp 34) rfl bl (ol + i * 7) rfl (hkC q) _ Hq.out Try.underlying75 rfl info_rh ?_) | (at_builtin; refine Hid.out ?_))
        apply Lib.hid
        have HRw := Lib.hid (show R ≤ wr.heap.size by have := HG.out.size; have := ER.out; omega)
        have hgw : Gr wr (wr.alloc (.cells (hkC q).toArray 75)) := Gr.al Gr.rfl' _
        refine wpList_snoc (fun y : Hk => hkC y) 7 64 (fun _ => rfl) (by decide) (by decide) hkC_one rfl (.tmp 28) (.tmp 36) 56 rfl R 75 _ Try.underlying56 infoRh rfl (.slice ua (dropL (L.take i) t).length uc) (dropL (L.take i) t) rfl (own_gr HO.out hgw) q wr.heap.size rfl (heap_alloc_new wr _) (by omega) (Nat.le_trans HRw.out hgw.size) (fun a6 c6 w6 ho6 hg6 hat6 => ?_)
        have HO6 := Lib.hid (show w6.ownsRow R 75 7 (.slice a6 ((dropL (L.take i) t).length + 1) c6) (dropL (L.take (i + 1)) t).length (encH (dropL (L.take (i + 1)) t)) by rw [HD2.out]; exact ho6)
        have HG6 := Lib.hid (gr_gb (HG.out.tr hgw) hg6 (fun j hj => by have h1 := ((own_gr HO.out hgw).lt j hj).1; have h2 := ER.out; show w.heap.size ≤ j; omega))
        clear ho6 hg6 hat6 hgw cq c1
        go_wp2_with fail
        go_roundw
        case rel => exact ⟨i + 1, by omega, by go_num, HO6, HG6⟩
        case measure => simp [intOf]; omega
    · obtain rfl : i = L.length := by omega
      have HT := Lib.hid (List.take_length (l := L))
      have hw : IntKind.i64.wrap ((L.length : Int) - ((dropL L t).length : Int)) = (L.length : Int) - ((dropL L t).length : Int) := wrap_id (by rw [HT.out] at hdl; unfold I64; omega)
      rw [HT.out] at HO ⊢
      have fz := frozen_of_row wr r 1 _ _ (HG.out.blk H.out.blk)
      clear hlt
      go_wp2_with fail
      go_ret
      have hs := (H.out.gr HG.out).set (own_mono HO.out HNR.out) (fun z => by have := (HO.out.lt r z).1; omega)
      exact ⟨rfl, _, hs.1, (Bt.of HG.out).tr hs.2⟩
end Go.Proofs.Ytijgbfhjimlklaa
