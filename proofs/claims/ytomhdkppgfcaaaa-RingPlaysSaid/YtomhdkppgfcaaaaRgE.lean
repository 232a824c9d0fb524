/- The ring: what is cut off; the reference's nodes. -/
import Derived.Test.YtomhdkppgfcaaaaRgD
import Derived.Deep.AppendLies
namespace Go.Proofs.Ytomhdkppgfcaaaa
open Go.RowKit

theorem rd_take {w : World} {a : Option Addr} {n cap m : Nat} {l : List Int} (h : rdRow w 1 (.slice a n cap) l.length (encI l)) (hm : m ≤ l.length) : rdRow w 1 (.slice a m cap) (l.take m).length (encI (l.take m)) := by
  obtain ⟨h1, a', cap', hv, hc, h2⟩ := h
  cases hv
  have hl : (l.take m).length = m := by simp; omega
  refine ⟨by simp [encI_map], a, cap, by rw [hl], by omega, fun h0 => ?_⟩
  obtain ⟨b, o, ha, h3⟩ := h2 (by omega)
  refine ⟨b, o, ha, fun j u hu => h3 j u ?_⟩
  rw [encI_map] at hu ⊢
  rw [List.map_take, List.getElem?_take] at hu
  split at hu
  · exact hu
  · cases hu
theorem few_calls (v : Value) (l : List Int) (w : World) (hv : rdRow w 1 v l.length (encI l)) (hk : l.length ≤ maxLen) :
    Calls Try.prog 12 #[v] w fun e w' => ∃ v', e = .returned v' ∧ rdRow w 1 v' (l.take 12).length (encI (l.take 12)) ∧ w = w' := by
  have hv0 := hv
  obtain ⟨_, a, cap, rfl, hc, _⟩ := hv
  unfold maxLen at hk
  by_cases h : 12 < l.length
  · have h1 : (12 : Int) < l.length := by omega
    have h2 : (12 : Int) ≤ cap := by omega
    have H := Lib.hid (rd_take hv0 (Nat.le_of_lt h))
    clear hv0 h hc
    go_enter Try.func12, Try.ntmps12
    go_wp2_with fail
    go_ret
    exact ⟨_, rfl, H.out, rfl⟩
  · have h1 : ¬ (12 : Int) < l.length := by omega
    have e : l.take 12 = l := List.take_of_length_le (by omega)
    have H := Lib.hid hv0
    clear hv0 h hc
    rw [e]
    go_enter Try.func12, Try.ntmps12
    go_wp2_with fail
    go_ret
    exact ⟨_, rfl, H.out, rfl⟩
theorem short_calls (s : ByteArray) (n : Int) (hn : 0 ≤ n) (w : World) :
    Calls Try.prog 9 #[.string s, .int .i64 n] w fun e w' => ∃ s', e = .returned (.string s') ∧ (s'.size : Int) ≤ n ∧ w = w' := by
  by_cases h : n < s.size
  · go_enter Try.func9, Try.ntmps9
    go_wp2_with fail
    go_ret
    exact ⟨_, rfl, by simp; omega, rfl⟩
  · go_enter Try.func9, Try.ntmps9
    go_wp2_with fail
    go_ret
    exact ⟨_, rfl, by omega, rfl⟩

def nodesTo (l : List Int) (n : Nat) : List Int := ((List.range n).map Int.ofNat).filter (· ∈ l)
def nodesOf (l : List Int) : List Int := nodesTo l 16
theorem nodesTo_yes {l : List Int} {n : Nat} (h : (n : Int) ∈ l) : nodesTo l (n + 1) = nodesTo l n ++ [(n : Int)] := by
  simp [nodesTo, List.range_succ, List.filter_append, h]
theorem nodesTo_no {l : List Int} {n : Nat} (h : ¬ (n : Int) ∈ l) : nodesTo l (n + 1) = nodesTo l n := by
  simp [nodesTo, List.range_succ, List.filter_append, h]
theorem nodesTo_len (l : List Int) (n : Nat) : (nodesTo l n).length ≤ n := by
  have := List.length_filter_le (· ∈ l) ((List.range n).map Int.ofNat)
  simpa [nodesTo] using this
theorem infoInt : (Try.prog.info? 3).map (fun i => (i.zero, i.size, i.bytes)) = some (some (.int .i64 0), 1, 8) := by kernel_rfl
theorem encI_snoc (l : List Int) (x : Int) : encI (l ++ [x]) = encI l ++ [.int .i64 x] := by simp

set_option maxRecDepth 100000 in
set_option maxHeartbeats 2000000 in
theorem rnodes_calls (v : Value) (l : List Int) (w : World) (hv : rdRow w 1 v l.length (encI l)) (hk : l.length ≤ 1000000) :
    Calls Try.prog 18 #[v] w fun e w' => ∃ v', e = .returned v' ∧ w'.ownsRow w.heap.size 3 1 v' (nodesOf l).length (encI (nodesOf l)) ∧ Gr w w' := by
  obtain ⟨a, cap, rfl, hcap, hrd⟩ := rd_at hv
  have hy := fun n => @nodesTo_yes l n
  have hno := fun n => @nodesTo_no l n
  have hlen := nodesTo_len l
  have h16 : nodesOf l = nodesTo l 16 := rfl
  have h00 : nodesTo l 0 = [] := rfl
  rw [h16]
  generalize nodesTo l = nt at *
  clear h16
  have Hy := Lib.hid hy; have Hno := Lib.hid hno; have Hlen := Lib.hid hlen; have Hrd := Lib.hid hrd
  clear hy hno hlen hrd hv
  obtain ⟨i0, hi, hz0, hz1, hz2⟩ := info_parts infoInt
  go_enter Try.func18, Try.ntmps18
  go_wp2_with fail
  go_loopw [3, 4] (fun u v wr => ∃ n : Nat, n ≤ 16 ∧ v = .int .i64 n ∧ wr.ownsRow w.heap.size 3 1 u (nt n).length (encI (nt n)) ∧ Gr w wr) (fun _ v _ => 16 - (intOf v).toNat)
  case atStart => exact ⟨0, Nat.zero_le _, rfl, by rw [h00]; exact World.ownsRow_nil _ _ _ _, Gr.rfl'⟩
  case round =>
    obtain ⟨n, hn, rfl, hown, hg⟩ := hrel
    have hgz := hg.size
    obtain ⟨ua, uc, hu⟩ := own_slice hown
    subst hu
    have hln := Hlen.out n
    have Hown := Lib.hid hown; clear hown
    by_cases hlt : n < 16
    · have h1 : (n : Int) < 16 := by omega
      go_wp2_with fail
      go_loopw [3, 5] (fun u i wx => ∃ k : Nat, k ≤ l.length ∧ i = .int .i64 k ∧ u = .slice ua (nt n).length uc ∧ (n : Int) ∉ l.take k ∧ wr = wx) (fun _ i _ => l.length - (intOf i).toNat)
      case atStart => exact ⟨0, Nat.zero_le _, rfl, rfl, by simp, rfl⟩
      case round =>
        obtain ⟨k, hk1, rfl, rfl, hnot, rfl⟩ := hrel
        by_cases hkl : k < l.length
        · obtain ⟨b, o, rfl, hc⟩ := Hrd.out (by omega)
          have c0 := keepc hg (hc k hkl)
          have h2 : (k : Int) < l.length := by omega
          have Hm := Lib.hid (List.getElem_mem hkl)
          have Ht := Lib.hid (List.take_succ_eq_append_getElem hkl)
          have Hn := Lib.hid hnot
          clear hc hnot
          generalize l[k] = x at *
          by_cases he : x = n
          · have he' : (x == (n : Int)) = true := by simp [he]
            have Hx := Lib.hid he
            clear he
            go_wp2_with (at_builtin; refine wpList_append_own _ rfl _ _ 27 rfl w.heap.size 3 i0 _ 1 8 Try.underlying27 hi hz0 hz1 hz2 rfl (by decide) _ _ _ rfl (Hown.out.alloc _) ⟨wr.heap.size, 0, none⟩ 1 1 [.int .i64 (n : Int)] rfl rfl (World.news_of_block (heap_alloc_new wr _)) (by intro u hu; simp only [List.mem_cons, List.not_mem_nil, or_false] at hu; subst hu; rfl) (by unfold maxLen; omega) (by omega) (by simp; omega) ?_; intro v3 w3 hown3 hgrow3 _)
            go_roundw
            case rel => exact ⟨n + 1, by omega, by go_num, own_cast hown3 (by rw [Hy.out n (by rw [← Hx.out]; exact Hm.out)]; simp) (by rw [Hy.out n (by rw [← Hx.out]; exact Hm.out), encI_snoc]), gr_gb (by (repeat (first | exact Gr.rfl' | refine Gr.al ?_ _ | refine Gr.dr ?_ | refine Gr.drN ?_ | refine Gr.sc ?_ (by simp <;> omega) _ | refine Gr.tr ?_ (by assumption)))) hgrow3 (fun j hj => (Hown.out.lt j hj).1)⟩
            case measure => simp [intOf]; omega
          · have he' : (x == (n : Int)) = false := by simp [he]
            have Hx := Lib.hid (show (n : Int) ≠ x from fun e => he e.symm)
            clear he
            go_wp2_with fail
            go_roundw
            case rel => exact ⟨k + 1, by omega, by go_num, rfl, by rw [Ht.out]; simp [Hn.out, Hx.out], trivial⟩
            case measure => simp [intOf]; omega
        · obtain rfl : k = l.length := by omega
          have Hn := Lib.hid hnot
          clear hnot
          go_wp2_with fail
          go_roundw
          case rel =>
            have hh := Hn.out
            rw [List.take_length] at hh
            exact ⟨n + 1, by omega, by go_num, by rw [Hno.out n hh]; exact Hown.out, hg⟩
          case measure => simp [intOf]; omega
    · obtain rfl : n = 16 := by omega
      go_wp2_with fail
      go_ret
      exact ⟨_, rfl, Hown.out, hg⟩
end Go.Proofs.Ytomhdkppgfcaaaa
