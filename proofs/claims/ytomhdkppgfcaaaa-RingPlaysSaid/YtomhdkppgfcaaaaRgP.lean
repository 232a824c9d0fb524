/- The ring: Moved. -/
import Derived.Test.YtomhdkppgfcaaaaRgO
namespace Go.Proofs.Ytomhdkppgfcaaaa
open Go.RowKit

set_option maxHeartbeats 1000000 in
theorem delnil_calls (cap : Nat) (had : List Int) (B : Nat) (vh : Value) (w : World) (a : Option Addr) (hB : w.cell? ⟨B, 0, none⟩ = some vh) (hh : rdRow w 1 vh had.length (encI had)) (hhk : had.length ≤ 1000000) :
    Calls Try.prog 34 #[.slice a 0 cap, .func (.func 35) #[] #[.pointer (some ⟨B, 0, none⟩)]] w fun e w' => e = .returned (.slice a 0 cap) ∧ w = w' := by
  have hi := indexf_calls (.slice a 0 cap) vh [] had B w ⟨rfl, a, cap, rfl, Nat.zero_le _, fun h => absurd h (by decide)⟩ (by decide) hB hh hhk
  clear hh
  go_enter Try.func34, Try.ntmps34
  go_wp2_with fail
  refine hi.mono ?_
  rintro e w1 ⟨h, rfl⟩
  rcases h with ⟨rfl, _⟩ | ⟨k, _, hk, _⟩
  · go_wp2_with fail
    go_ret
    exact ⟨rfl, rfl⟩
  · exact absurd hk (by simp)
set_option maxHeartbeats 1000000 in
theorem moved_calls (p1 p2 : Nat) (ep1 ep2 : Int) (ns1 ns2 : List Int) (ps1 ps2 : List Pt) (key : ByteArray) (most : Int) (w : World) (hr1 : RD w p1 ep1 ns1 ps1) (hr2 : RD w p2 ep2 ns2 ps2) (hk1 : ps1.length ≤ 128) (hk2 : ps2.length ≤ 128) (hs1 : ps1.Pairwise leP) (hs2 : ps2.Pairwise leP) (hkey : key.size ≤ 1000000) :
    Calls Try.prog 19 #[.pointer (some ⟨p1, 0, none⟩), .pointer (some ⟨p2, 0, none⟩), .string key, .int .i64 most] w fun e w' => ∃ v', e = .returned v' ∧
      rdRow w' 1 v' ((prefer ps2 (hashS key) most).filter fun x => !decide (x ∈ prefer ps1 (hashS key) most)).length (encI ((prefer ps2 (hashS key) most).filter fun x => !decide (x ∈ prefer ps1 (hashS key) most))) ∧ Gr w w' := by
  have hp1 := prefer_calls p1 ep1 ns1 ps1 key most w hr1 hk1 hs1 hkey
  have hp2 := fun W hg => prefer_calls p2 ep2 ns2 ps2 key most W (RD.gr hr2 hg) hk2 hs2 hkey
  have hl1 : (prefer ps1 (hashS key) most).length ≤ 1000000 := by have := prefTo_len ps1 (hashS key) most ps1.length (Nat.le_refl _); unfold prefer; omega
  have hl2 : (prefer ps2 (hashS key) most).length ≤ 1000000 := by have := prefTo_len ps2 (hashS key) most ps2.length (Nat.le_refl _); unfold prefer; omega
  generalize prefer ps1 (hashS key) most = A at *
  generalize prefer ps2 (hashS key) most = Bl at *
  have Hp2 := Lib.hid hp2
  clear hp2 hr1 hr2 hs1 hs2
  go_enter Try.func19, Try.ntmps19
  go_wp2_with fail
  refine hp1.mono ?_
  rintro e w1 ⟨v1, rfl, hown1, hb⟩
  clear hp1
  obtain ⟨aa, ac, rfl⟩ := own_slice hown1
  have hG : Gr w w1 := hb
  have cB := (heap_alloc_new w1 (.cells #[.slice aa A.length ac] 27))
  have cB0 : (w1.alloc (.cells #[.slice aa A.length ac] 27)).cell? ⟨w1.heap.size, 0, none⟩ = some (.slice aa A.length ac) := by rw [cell_of_row _ w1.heap.size 0 _ _ _ cB]; rfl
  have hrA := (rdRow_of_own hown1).gr (Gr.al Gr.rfl' (.cells #[.slice aa A.length ac] 27))
  have hG1 : Gr w (w1.alloc (.cells #[.slice aa A.length ac] 27)) := by (repeat (first | exact Gr.rfl' | refine Gr.al ?_ _ | refine Gr.dr ?_ | refine Gr.drN ?_ | refine Gr.sc ?_ (by simp <;> omega) _ | refine Gr.tr ?_ (by assumption)))
  have Hblk := Lib.hid (show ∀ b o n c, Value.slice aa A.length ac = .slice (some ⟨b, o, none⟩) n c → b < w1.heap.size from fun b o n c hv => (hown1.lt b (by rw [hv]; rfl)).2)
  have hsz : (w1.alloc (.cells #[.slice aa A.length ac] 27)).heap.size = w1.heap.size + 1 := by simp
  clear hb cB hown1 hG
  go_wp2_with fail
  generalize w1.alloc (.cells #[.slice aa A.length ac] 27) = W1 at *
  generalize w1.heap.size = Bx at *
  refine (Hp2.out _ hG1).mono ?_
  rintro e w2 ⟨v2, rfl, hown2, hb⟩
  have cB2 := keepc hb cB0
  have hrA2 := hrA.gr hb
  have hG2 := hG1.tr hb
  have hz1 := hG1.size
  clear hb cB0 hrA
  by_cases hz : Bl.length = 0
  · obtain rfl := List.length_eq_zero_iff.1 hz
    clear hz
    obtain ⟨ba, bc, rfl⟩ := own_slice hown2
    have hd := delnil_calls bc A Bx _ w2 ba cB2 hrA2 hl1
    clear hown2 hrA2
    go_wp2_with fail
    refine hd.mono ?_
    rintro e w3 ⟨rfl, rfl⟩
    go_wp2_with fail
    go_ret
    exact ⟨_, rfl, ⟨rfl, ba, bc, rfl, Nat.zero_le _, fun h => by simp at h⟩, hG2⟩
  · obtain ⟨g, gc, rfl, hgb, hgl⟩ := own_at hown2 (by omega)
    clear hz
    obtain ⟨ax, cx, hv0, hcap, _⟩ := rd_at (rdRow_of_own hown2)
    injection hv0 with hva _ hcc
    subst hva; subst hcc
    have hd := del_calls Bl A g gc Bx W1.heap.size _ w2 hown2 hcap hl2 cB2 (by omega) hrA2 (fun b o n c hv => by have := Hblk.out b o n c hv; omega) hl1
    clear hown2 hrA2
    have Hd := Lib.hid hd
    clear hd
    go_wp2_with fail
    with_reducible refine Hd.out.mono ?_
    rintro e w3 ⟨rfl, hrd, hgr⟩
    have Hrd := Lib.hid hrd
    clear hrd
    go_wp2_with fail
    go_ret
    exact ⟨_, rfl, Hrd.out, gr_gb hG2 hgr (fun k hk => by cases hk; omega)⟩
end Go.Proofs.Ytomhdkppgfcaaaa
