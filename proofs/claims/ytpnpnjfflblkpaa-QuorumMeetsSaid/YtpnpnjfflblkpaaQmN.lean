/- The reference's Nodes: those from 0 to 15 that are in a list, rising. -/
import Derived.Test.YtpnpnjfflblkpaaQmA
namespace Go.Proofs.Ytpnpnjfflblkpaa
open Go.RowKit

def nodesTo (l : List Int) (n : Nat) : List Int := ((List.range n).map Int.ofNat).filter (· ∈ l)
def nodesOf (l : List Int) : List Int := nodesTo l 16
theorem nodesTo_yes {l : List Int} {n : Nat} (h : (n : Int) ∈ l) : nodesTo l (n + 1) = nodesTo l n ++ [(n : Int)] := by
  simp [nodesTo, List.range_succ, List.filter_append, h]
theorem nodesTo_no {l : List Int} {n : Nat} (h : ¬ (n : Int) ∈ l) : nodesTo l (n + 1) = nodesTo l n := by
  simp [nodesTo, List.range_succ, List.filter_append, h]
theorem nodesTo_len (l : List Int) (n : Nat) : (nodesTo l n).length ≤ n := by
  have := List.length_filter_le (· ∈ l) ((List.range n).map Int.ofNat)
  simpa [nodesTo] using this

set_option maxRecDepth 100000 in
set_option maxHeartbeats 2000000 in
theorem rnodes_calls (v : Value) (l : List Int) (w : World) (hv : rdRow w 1 v l.length (encI l)) (hk : l.length ≤ 1000000) :
    Calls Try.prog 51 #[v] w fun e w' => ∃ v', e = .returned v' ∧ w'.ownsRow w.heap.size 3 1 v' (nodesOf l).length (encI (nodesOf l)) ∧ Gr w w' := by
  obtain ⟨a, cap, rfl, hcap, hrd⟩ := rd_at hv
  have hy := fun n => @nodesTo_yes l n
  have hno := fun n => @nodesTo_no l n
  have hlen := nodesTo_len l
  have h16 : nodesOf l = nodesTo l 16 := rfl
  have h00 : nodesTo l 0 = [] := rfl
  rw [h16]
  generalize nodesTo l = nt at *
  clear h16
  have Hy := Lib.hid hy; have Hno := Lib.hid hno; have Hlen := Lib.hid hlen; have Hrd := Lib.hid hrd
  clear hy hno hlen hrd hv
  obtain ⟨i0, hi, hz0, hz1, hz2⟩ := info_parts infoInt
  go_enter Try.func51, Try.ntmps51
  go_wp2_with fail
  go_loopw [3, 4] (fun u v wr => ∃ n : Nat, n ≤ 16 ∧ v = .int .i64 n ∧ wr.ownsRow w.heap.size 3 1 u (nt n).length (encI (nt n)) ∧ Gr w wr) (fun _ v _ => 16 - (intOf v).toNat)
  case atStart => exact ⟨0, Nat.zero_le _, rfl, by rw [h00]; exact World.ownsRow_nil _ _ _ _, Gr.rfl'⟩
  case round =>
    obtain ⟨n, hn, rfl, hown, hg⟩ := hrel
    have hgz := hg.size
    obtain ⟨ua, uc, hu⟩ := own_slice hown
    subst hu
    have hln := Hlen.out n
    have Hown := Lib.hid hown; clear hown
    by_cases hlt : n < 16
    · have h1 : (n : Int) < 16 := by omega
      go_wp2_with fail
      go_loopw [3, 5] (fun u i wx => ∃ k : Nat, k ≤ l.length ∧ i = .int .i64 k ∧ u = .slice ua (nt n).length uc ∧ (n : Int) ∉ l.take k ∧ wr = wx) (fun _ i _ => l.length - (intOf i).toNat)
      case atStart => exact ⟨0, Nat.zero_le _, rfl, rfl, by simp, rfl⟩
      case round =>
        obtain ⟨k, hk1, rfl, rfl, hnot, rfl⟩ := hrel
        by_cases hkl : k < l.length
        · obtain ⟨b, o, rfl, hc⟩ := Hrd.out (by omega)
          have c0 := keepc hg (hc k hkl)
          have h2 : (k : Int) < l.length := by omega
          have Hm := Lib.hid (List.getElem_mem hkl)
          have Ht := Lib.hid (List.take_succ_eq_append_getElem hkl)
          have Hn := Lib.hid hnot
          clear hc hnot
          generalize l[k] = x at *
          by_cases he : x = n
          · have he' : (x == (n : Int)) = true := by simp [he]
            have Hx := Lib.hid he
            clear he
            go_wp2_with (at_builtin; refine wpList_append_own _ rfl _ _ 27 rfl w.heap.size 3 i0 _ 1 8 Try.underlying27 hi hz0 hz1 hz2 rfl (by decide) _ _ _ rfl (Hown.out.alloc _) ⟨wr.heap.size, 0, none⟩ 1 1 [.int .i64 (n : Int)] rfl rfl (World.news_of_block (heap_alloc_new wr _)) (by intro u hu; simp only [List.mem_cons, List.not_mem_nil, or_false] at hu; subst hu; rfl) (by unfold maxLen; omega) (by omega) (by simp; omega) ?_; intro v3 w3 hown3 hgrow3 _)
            go_roundw
            case rel => exact ⟨n + 1, by omega, by go_num, own_cast hown3 (by rw [Hy.out n (by rw [← Hx.out]; exact Hm.out)]; simp) (by rw [Hy.out n (by rw [← Hx.out]; exact Hm.out), encI_snoc]), gr_gb (by (repeat (first | exact Gr.rfl' | refine Gr.al ?_ _ | refine Gr.dr ?_ | refine Gr.drN ?_ | refine Gr.sc ?_ (by simp <;> omega) _ | refine Gr.tr ?_ (by assumption)))) hgrow3 (fun j hj => (Hown.out.lt j hj).1)⟩
            case measure => simp [intOf]; omega
          · have he' : (x == (n : Int)) = false := by simp [he]
            have Hx := Lib.hid (show (n : Int) ≠ x from fun e => he e.symm)
            clear he
            go_wp2_with fail
            go_roundw
            case rel => exact ⟨k + 1, by omega, by go_num, rfl, by rw [Ht.out]; simp [Hn.out, Hx.out], trivial⟩
            case measure => simp [intOf]; omega
        · obtain rfl : k = l.length := by omega
          have Hn := Lib.hid hnot
          clear hnot
          go_wp2_with fail
          go_roundw
          case rel =>
            have hh := Hn.out
            rw [List.take_length] at hh
            exact ⟨n + 1, by omega, by go_num, by rw [Hno.out n hh]; exact Hown.out, hg⟩
          case measure => simp [intOf]; omega
    · obtain rfl : n = 16 := by omega
      go_wp2_with fail
      go_ret
      exact ⟨_, rfl, Hown.out, hg⟩
end Go.Proofs.Ytpnpnjfflblkpaa
