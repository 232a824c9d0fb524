/- quorum: a write as it lies; what is made, acknowledged, told. -/
import Derived.Test.YtpnpnjfflblkpaaDgI
import Derived.Test.YtpnpnjfflblkpaaSpB
import Derived.Deep.QuietTactic
import Derived.BigQuiet
namespace Go.Proofs.Ytpnpnjfflblkpaa
open Go.RowKit Go.Maps Go.Sort Go.Shelf
attribute [local go_sem] max2_mx min2_mn max_two' min_two'

theorem nodesTo_mem {l : List Int} {n : Nat} {x : Int} : x ∈ nodesTo l n ↔ x ∈ l ∧ 0 ≤ x ∧ x < n := by
  unfold nodesTo
  rw [List.mem_filter, List.mem_map]
  constructor
  · rintro ⟨⟨j, hj, rfl⟩, h⟩
    rw [List.mem_range] at hj
    exact ⟨by simpa using h, Int.natCast_nonneg j, by show (j : Int) < n; omega⟩
  · rintro ⟨h, h0, h1⟩
    exact ⟨⟨x.toNat, by rw [List.mem_range]; omega, by show ((x.toNat : Nat) : Int) = x; omega⟩, by simpa using h⟩
theorem nodesOf_mem {l : List Int} {x : Int} : x ∈ nodesOf l ↔ x ∈ l ∧ 0 ≤ x ∧ x < 16 := nodesTo_mem
theorem nodesTo_lt (l : List Int) (n : Nat) : (nodesTo l n).Pairwise (· < ·) := by
  unfold nodesTo
  refine List.Pairwise.filter _ ?_
  rw [List.pairwise_map]
  exact List.pairwise_lt_range.imp (fun h => by show Int.ofNat _ < Int.ofNat _; exact Int.ofNat_lt.2 h)
theorem nodesOf_len (l : List Int) : (nodesOf l).length ≤ 16 := nodesTo_len l 16
def outB (n : Int) : Bool := decide (n < 0) || decide (16 ≤ n)
theorem srt_out (l : List Int) : srt (l.filter fun x => !outB x) = nodesOf l := srt_eq (nodesTo_lt l 16) fun x => by
  rw [List.mem_filter, nodesOf_mem]
  unfold outB
  simp
theorem out_calls (n : Int) (w : World) : Calls Try.prog 40 #[.int .i64 n] w fun e w' => e = .returned (.bool (outB n)) ∧ w = w' := by
  have H := Lib.hid (show outB n = (decide (n < 0) || decide (16 ≤ n)) from rfl)
  by_cases h : n < 0
  · go_enter Try.func40, Try.ntmps40
    go_wp2_with fail
    go_ret
    exact ⟨by rw [H.out, decide_eq_true h]; rfl, rfl⟩
  · have hd := Lib.hid (decide_eq_false h)
    go_enter Try.func40, Try.ntmps40
    go_wp2_with fail
    go_ret
    exact ⟨by rw [H.out, hd.out]; rfl, rfl⟩
def haveF (H : List Int) (k : Int) : Option Value := if k ∈ H then some (.bool true) else none
theorem zeroBool (w : World) : (zeroValue 4).run Try.prog w = .ok (.bool false) w := Try.zeroValue4 w
structure WrAt (w : World) (p : Nat) (nd : Int) (nv : Value) (N : List Int) (mb : Option Nat) (H : List Int) : Prop where
  c0 : w.cell? ⟨p, 0, none⟩ = some (.int .i64 nd)
  c1 : w.cell? ⟨p, 1, none⟩ = some nv
  c2 : w.cell? ⟨p, 2, none⟩ = some (.map mb)
  row : rdRow w 1 nv N.length (encI N)
  map : ImAt (.bool false) w mb (haveF H) H.length
  sub : ∀ k ∈ H, k ∈ N
  some_ : 0 < N.length → ∃ b, mb = some b
  nI : ∀ k ∈ N, I64 k
section
variable {w w' : World} {p : Nat} {nd : Int} {nv : Value} {N H H' : List Int} {mb : Option Nat}
theorem map_ne_row {w : World} {b : Nat} (hm : ∃ es c, w.heap[b]? = some (.map es c)) {p : Addr} {v : Value} (h : w.cell? p = some v) : p.block ≠ b := fun e => by
  obtain ⟨es, c, hb⟩ := hm
  rw [World.cell?, e, hb] at h; cases h
theorem rd_map {w w' : World} {k n : Nat} {v : Value} {xs : List Value} (h : rdRow w k v n xs) {X : Nat → Prop} (hb : Bt X w w') (hX : ∀ b, X b → ∃ es c, w.heap[b]? = some (.map es c)) : rdRow w' k v n xs := by
  obtain ⟨h1, a, cap, rfl, h2, h3⟩ := h
  refine ⟨h1, a, cap, rfl, h2, fun hp => ?_⟩
  obtain ⟨b, o, rfl, h4⟩ := h3 hp
  refine ⟨b, o, rfl, fun j u hu => ?_⟩
  refine hb.cell (fun hx => ?_) (h4 j u hu)
  exact map_ne_row (hX _ hx) (h4 j u hu) rfl
theorem WrAt.gr (h : WrAt w p nd nv N mb H) (hg : Gr w w') : WrAt w' p nd nv N mb H := ⟨keepc hg h.c0, keepc hg h.c1, keepc hg h.c2, h.row.gr hg, h.map.gr hg, h.sub, h.some_, h.nI⟩
/-- Other maps are written. -/
theorem WrAt.bt (h : WrAt w p nd nv N mb H) {X : Nat → Prop} (hb : Bt X w w') (hX : ∀ b, X b → ∃ es c, w.heap[b]? = some (.map es c)) (hm : ∀ b, mb = some b → ¬ X b) : WrAt w' p nd nv N mb H :=
  have hp : ∀ {o : Nat} {v : Value}, w.cell? ⟨p, o, none⟩ = some v → w'.cell? ⟨p, o, none⟩ = some v := fun hc => hb.cell (fun hx => map_ne_row (hX _ hx) hc rfl) hc
  ⟨hp h.c0, hp h.c1, hp h.c2, rd_map h.row hb hX, h.map.bt hb hm, h.sub, h.some_, h.nI⟩
end
set_option maxRecDepth 100000 in
set_option maxHeartbeats 4000000 in
theorem newwrite_calls (need : Int) (v : Value) (ns : List Int) (w : World) (hv : rdRow w 1 v ns.length (encI ns)) (hk : ns.length ≤ 1000000) :
    Calls Try.prog 11 #[.int .i64 need, v] w fun e w' => ∃ p nv b, e = .returned (.pointer (some ⟨p, 0, none⟩)) ∧ WrAt w' p (mx need 1) nv (nodesOf ns) (some b) [] ∧
      w'.heap[p]? = some (.cells #[.int .i64 (mx need 1), nv, .map (some b)] 66 (0, 0)) ∧ w.heap.size ≤ p ∧ w.heap.size ≤ b ∧ Gr w w' := by
  have HV := Lib.hid hv
  have HS := Lib.hid (srt_out ns)
  clear hv
  have heg : ∀ args w, (callFunc 40 args).run Try.prog w = .ok (.enter 40 args) w := enters_of Try.func40 (by kernel_rfl) rfl
  have HEG := Lib.hid heg
  clear heg
  go_enter Try.func11, Try.ntmps11
  go_wp2_with fail
  refine (clone_calls v ns _ HV.out hk).mono ?_
  rintro e w1 ⟨v1, rfl, ho1, hg1⟩
  have HO1 := Lib.hid ho1
  have HG1 := Lib.hid hg1
  clear ho1 hg1
  go_wp2_with fail
  refine (deli_calls 40 #[] HEG.out outB ns v1 _ _ HO1.out hk (fun W x _ => (out_calls x W).mono fun e w' ⟨a, b⟩ => ⟨a, 0, b.symm⟩)).mono ?_
  rintro e w2 ⟨v2, rfl, ho2, hg2⟩
  have hf := List.length_filter_le (fun x => !outB x) ns
  obtain ⟨F, eF⟩ : ∃ F, (ns.filter fun x => !outB x) = F := ⟨_, rfl⟩
  rw [eF] at ho2 hf HS
  have HO2 := Lib.hid ho2
  have HG2 := Lib.hid (gr_gb HG1.out hg2 (fun j hj => (HO1.out.lt j hj).1))
  clear ho2 hg2 HO1 HG1 eF
  go_wp2_with fail
  refine (sort_own_calls _ _ v2 F HO2.out (by omega)).mono ?_
  rintro e w3 ⟨rfl, ho3, hg3⟩
  have HO3 := Lib.hid (show w3.ownsRow w.heap.size 3 1 v2 (srtd F).length (encI (srtd F)) by rw [srtd_len]; exact ho3)
  have HG3 := Lib.hid (gr_gb HG2.out hg3 (fun j hj => (HO2.out.lt j hj).1))
  clear ho3 hg3 HO2 HG2
  go_wp2_with fail
  refine (comp_own_calls _ _ v2 (srtd F) HO3.out (by rw [srtd_len]; omega) (srtd_le F)).mono ?_
  rintro e w4 ⟨v4, rfl, ho4, hg4⟩
  have HO4 := Lib.hid (show w4.ownsRow w.heap.size 3 1 v4 (nodesOf ns).length (encI (nodesOf ns)) by rw [← HS.out]; exact ho4)
  have HG4 := Lib.hid (gr_gb HG3.out hg4 (fun j hj => (HO3.out.lt j hj).1))
  obtain ⟨fa, fc, rfl⟩ := own_slice HO4.out
  have hmm : ∀ w, (Instr.makeMap 64 none).run Try.prog w = .ok (.map (some w.heap.size)) (w.alloc (.map #[] 0)) := fun w => by simp [Instr.makeMap]
  have HIM := Lib.hid (ImAt.made (Z := .bool false) w4)
  have HNI := Lib.hid (show ∀ k ∈ nodesOf ns, I64 k from fun k hk => by have := nodesOf_mem.1 hk; unfold I64; omega)
  obtain ⟨N, eN⟩ : ∃ N, nodesOf ns = N := ⟨_, rfl⟩
  rw [eN] at HO4 HNI ⊢
  have EN := Lib.hid eN
  clear eN
  clear ho4 hg4 HO3 HG3 HS hf
  go_wp2_with fail
  have hsz := HG4.out.size
  have hs : (w4.alloc (.map #[] 0)).heap.size = w4.heap.size + 1 := by simp
  have hb := heap_alloc_new (w4.alloc (.map #[] 0)) (.cells #[.int .i64 (mx need 1), .slice fa N.length fc, .map (some w4.heap.size)] 66)
  rw [hs] at hb
  have h2 := HIM.out.gr (Gr.al Gr.rfl' (.cells #[.int .i64 (mx need 1), .slice fa N.length fc, .map (some w4.heap.size)] 66))
  have hr := rdRow_of_own (own_gr HO4.out ((Gr.al (Gr.rfl' (w := w4)) (.map #[] 0)).al (.cells #[.int .i64 (mx need 1), .slice fa N.length fc, .map (some w4.heap.size)] 66)))
  go_ret
  rw [EN.out]
  refine ⟨_, .slice fa N.length fc, _, rfl, ⟨(cell_of_row _ _ 0 _ _ _ hb).trans rfl, (cell_of_row _ _ 1 _ _ _ hb).trans rfl, (cell_of_row _ _ 2 _ _ _ hb).trans rfl, hr, ?_, (fun k hk => by cases hk), (fun _ => ⟨_, rfl⟩), HNI.out⟩, hb, by omega, by omega, (HG4.out.al _).al _⟩
  have : haveF [] = fun _ => none := by funext k; simp [haveF]
  rw [this]
  exact h2
end Go.Proofs.Ytpnpnjfflblkpaa
