/- The ring: what is struck out of a list. -/
import Derived.Test.YtomhdkppgfcaaaaRgN
import Derived.Test.YtomhdkppgfcaaaaLb
import Derived.Shelf.SlicesE.DeleteFunc
namespace Go.Proofs.Ytomhdkppgfcaaaa
open Go.RowKit Go.Sort Go.Shelf

theorem zeroInt (w : World) : (zeroValue 3).run Try.prog w = .ok (.int .i64 0) w := Try.zeroValue3 w
theorem rd_same {w w1 : World} {v : Value} {l : List Int} (h : rdRow w 1 v l.length (encI l)) (hc : ∀ b o c, v = .slice (some ⟨b, o, none⟩) l.length c → ∀ j, j < l.length → w1.cell? ⟨b, o + j, none⟩ = w.cell? ⟨b, o + j, none⟩) : rdRow w1 1 v l.length (encI l) := by
  obtain ⟨h1, a, cap, rfl, h2, h3⟩ := h
  refine ⟨h1, a, cap, rfl, h2, fun hp => ?_⟩
  obtain ⟨b, o, rfl, h4⟩ := h3 hp
  refine ⟨b, o, rfl, fun j u hu => ?_⟩
  have hj : j < l.length := by
    have := (List.getElem?_eq_some_iff.1 hu).1
    rw [h1] at this; omega
  rw [hc b o cap rfl j hj]
  exact h4 j u hu
theorem holds_of_ownI {w : World} {base g cap : Nat} {l : List Int} (h : w.ownsRow base 3 1 (.slice (some ⟨g, 0, none⟩) l.length cap) l.length (encI l)) : Holds (Value.int .i64) w g 0 l.toArray := by
  intro j hj
  have hj' : j < l.length := by simpa using hj
  have hc := h.cells (g := g) rfl j _ (encI_get hj')
  rcases h.2 with ⟨h2, _⟩ | ⟨g', cap', cur, hv, hb, hg, _⟩
  · cases h2
  · simp only [Value.slice.injEq, Option.some.injEq, Addr.mk.injEq] at hv
    obtain ⟨⟨rfl, _⟩, _, rfl⟩ := hv
    rw [Addr.add_mid] at hc
    refine ⟨?_, by simp [World.frozen?, hg]⟩
    rw [hc, getElem!_pos l.toArray j hj]; simp
theorem over_cell {w : World} {g n : Nat} {dk : Array Int} {os : Array Obj} {a : Addr} (hl : a.block < w.heap.size) (hne : a.block ≠ g) : (sortWorld (Value.int .i64) w g 0 n dk os).cell? a = w.cell? a := by
  unfold sortWorld
  rw [cell?_grow _ _ _ (by rw [size_putRow]; exact hl), cell?_putRow_other _ _ g 0 _ _ (Or.inl hne)]
  rfl
set_option maxHeartbeats 1000000 in
theorem del_calls (l had : List Int) (g cap B base : Nat) (vh : Value) (w : World) (h : w.ownsRow base 3 1 (.slice (some ⟨g, 0, none⟩) l.length cap) l.length (encI l)) (hcap : l.length ≤ cap) (hk : l.length ≤ 1000000)
    (hB : w.cell? ⟨B, 0, none⟩ = some vh) (hBg : B ≠ g) (hh : rdRow w 1 vh had.length (encI had)) (hhg : ∀ b o n c, vh = .slice (some ⟨b, o, none⟩) n c → b ≠ g) (hhk : had.length ≤ 1000000) :
    Calls Try.prog 34 #[.slice (some ⟨g, 0, none⟩) l.length cap, .func (.func 35) #[] #[.pointer (some ⟨B, 0, none⟩)]] w fun e w' => e = .returned (.slice (some ⟨g, 0, none⟩) (l.filter fun x => !decide (x ∈ had)).length cap) ∧
      rdRow w' 1 (.slice (some ⟨g, 0, none⟩) (l.filter fun x => !decide (x ∈ had)).length cap) (l.filter fun x => !decide (x ∈ had)).length (encI (l.filter fun x => !decide (x ∈ had))) ∧ w.grownBy w' (some g) := by
  have eg : ∀ args w, (callFunc 35 args).run Try.prog w = .ok (.enter 35 args) w := enters_of Try.func35 (by kernel_rfl) rfl
  have hBl := World.block_lt_of_cell? w _ hB
  have gives : ∀ (W : World) (x : Int), W.cell? ⟨B, 0, none⟩ = some vh → rdRow W 1 vh had.length (encI had) → FnGives Try.prog 35 #[.pointer (some ⟨B, 0, none⟩)] #[.int .i64 x] (.bool (decide (x ∈ had))) W := fun W x h1 h2 => by
    show Calls Try.prog 35 #[.int .i64 x, .pointer (some ⟨B, 0, none⟩)] W _
    exact (moved1_calls x B vh had W h1 h2 hhk).mono fun e w' ⟨a, b⟩ => ⟨a, 0, b.symm⟩
  have hrdl : ∀ b o c, vh = .slice (some ⟨b, o, none⟩) had.length c → ∀ j, j < had.length → b < w.heap.size := fun b o c0 hv j hj => by
    obtain ⟨_, a, c, hv2, _, h3⟩ := hh
    obtain ⟨b2, o2, ha, h4⟩ := h3 (by omega)
    rw [hv2] at hv
    injection hv with e1 _ _
    rw [ha] at e1
    injection e1 with e1; injection e1 with e1 _ _
    subst e1
    exact World.block_lt_of_cell? w _ (h4 j _ (encI_get hj))
  have hp : PredAt Try.prog 35 #[.pointer (some ⟨B, 0, none⟩)] (Value.int .i64) (fun x => decide (x ∈ had)) w := fun W x hb => gives W x (keepc hb hB) (hh.gr hb)
  have hpo : PredOver Try.prog 35 #[.pointer (some ⟨B, 0, none⟩)] (Value.int .i64) (fun x => decide (x ∈ had)) g 0 l.toArray.size w := fun n os dk x _ =>
    gives _ x ((over_cell hBl hBg).trans hB) (rd_same hh fun b o c hv j hj => over_cell (hrdl b o c hv j hj) (hhg b o _ _ hv))
  have hH := holds_of_ownI h
  have hs := AnyE.slices_DeleteFunc delF (Value.int .i64) (fun _ => rfl) (fun x => decide (x ∈ had)) 35 #[.pointer (some ⟨B, 0, none⟩)] eg 0 zeroInt g 0 cap l.toArray w hp hpo hH (by simp; omega) (by simpa using hcap)
  change Calls Try.prog 34 _ _ _ at hs
  have ea : l.toArray.size = l.length := by simp
  rw [ea] at hs
  refine hs.mono ?_
  rintro e w' ⟨rfl, q, rfl⟩
  refine ⟨rfl, ?_, ?_⟩
  · have hfl := List.length_filter_le (fun x => !decide (x ∈ had)) l
    have hH2 := holds_putRow (Value.int .i64) (Sort.ahead w q) g 0 l.toArray (((l.toArray.toList.filter fun x => !decide (x ∈ had)) ++ List.replicate (l.length - (l.toArray.toList.filter fun x => !decide (x ∈ had)).length) 0).toArray) hH (by simp; omega)
    refine ⟨by simp [encI_map], some ⟨g, 0, none⟩, cap, rfl, by omega, fun _ => ⟨g, 0, rfl, fun j u hu => ?_⟩⟩
    have hj : j < (l.filter fun x => !decide (x ∈ had)).length := by
      have := (List.getElem?_eq_some_iff.1 hu).1
      simpa [encI_map] using this
    rw [encI_get hj] at hu
    injection hu with hu
    subst hu
    have := (hH2 j (by simp; omega)).1
    rw [this]
    congr 1
    rw [getElem!_pos _ j (by simp; omega)]
    simp [List.getElem_append_left hj]
  · refine ⟨rfl, rfl, rfl, by simp [putRow, mapBlock, Sort.ahead], fun k hk hne => ?_⟩
    have : k ≠ g := fun e => hne (by rw [e])
    simp [putRow, mapBlock, Sort.ahead, Array.getElem?_modify, Ne.symm this]
end Go.Proofs.Ytomhdkppgfcaaaa
