/- FilesReads: the walk. -/
import Derived.Test.YtdopmcepfacdlaaFeF
import Derived.Deep.CutBlock
namespace Go.Proofs.Ytdopmcepfacdlaa
open Go.RowKit Go.Maps

/-- A call, as it is read. -/
structure OpR where
  k : Int
  n : Int
  s : ByteArray
  t : ByteArray
  b : ByteArray
  ps : List Int
  d : Value
instance : Inhabited OpR := ⟨⟨0, 0, ⟨#[]⟩, ⟨#[]⟩, ⟨#[]⟩, [], .slice none 0 0⟩⟩
def opC (o : OpR) : List Value := [.int .i64 o.k, .int .i64 o.n, .string o.s, .string o.t, .string o.b, o.d]
def OpOk (W : World) (o : OpR) : Prop := I64 o.k ∧ I64 o.n ∧ rdRow W 1 o.d o.ps.length (encI o.ps) ∧ o.ps.length ≤ maxLen ∧ ∀ x ∈ o.ps, I64 x
theorem OpOk.gr {w w1 : World} {o : OpR} (h : OpOk w o) (hg : Gr w w1) : OpOk w1 o := ⟨h.1, h.2.1, h.2.2.1.gr hg, h.2.2.2⟩
theorem opC_one (o : OpR) (hd : o.d.oneCell' = true) : (opC o).toArray.all (·.oneCell') = true := by
  simp [opC, hd]; exact ⟨rfl, rfl, rfl, rfl, rfl⟩
/-- Three cells in a block. -/
def A3 (w : World) (B : Nat) (f : Nat → Value) : Prop := ∀ m : Nat, m < 3 → w.cell? ⟨B, m, none⟩ = some (f m) ∧ w.frozen? ⟨B, m, none⟩ = false
section
variable {w w' : World} {B : Nat} {f g : Nat → Value} {Y : Nat → Prop}
theorem Kept.cell (h : Kept Y w w') (hB : Y B) (o : Nat) : w'.cell? ⟨B, o, none⟩ = w.cell? ⟨B, o, none⟩ := by
  unfold World.cell?; rw [h B hB]
theorem Kept.frozen (h : Kept Y w w') (hB : Y B) (o : Nat) : w'.frozen? ⟨B, o, none⟩ = w.frozen? ⟨B, o, none⟩ := by
  unfold World.frozen?; rw [h B hB]
theorem Kept.tr {w2 : World} (h : Kept Y w w') (k : Kept Y w' w2) : Kept Y w w2 := fun b hb => (k b hb).trans (h b hb)
theorem A3.kept (h : A3 w B f) (hk : Kept Y w w') (hB : Y B) : A3 w' B f := fun m hm => by
  rw [hk.cell hB, hk.frozen hB]; exact h m hm
theorem A3.far (h : A3 w B f) {B1 o : Nat} (v : Value) (hne : B1 ≠ B) : A3 (w.setCell ⟨B1, o, none⟩ v) B f := fun m hm => by
  rw [World.cell?_setCell_other _ _ _ _ (by intro e; injection e with e; exact hne e), World.frozen?_setCell]; exact h m hm
theorem A3.set (h : A3 w B f) {m : Nat} (v : Value) (hx : g m = v) (hg : ∀ k : Nat, k ≠ m → g k = f k) : A3 (w.setCell ⟨B, m, none⟩ v) B g := fun k hk => by
  rw [World.frozen?_setCell]
  refine ⟨?_, (h k hk).2⟩
  by_cases e : k = m
  · subst e
    rw [World.cell?_setCell_same _ _ _ (h k hk).1, hx]
  · rw [World.cell?_setCell_other _ _ _ _ (by intro z; injection z with _ z; exact e z.symm), hg k e]; exact (h k hk).1
theorem A3.gr (h : A3 w B f) (hg : Gr w w') : A3 w' B f := fun m hm => ⟨keepc hg (h m hm).1, keepf hg (h m hm).1 (h m hm).2⟩
theorem a3_new (w : World) (T : TypeId) (f : Nat → Value) : A3 (w.alloc (.cells #[f 0, f 1, f 2] T)) w.heap.size f := fun m hm => by
  have hb := heap_alloc_new w (.cells #[f 0, f 1, f 2] T)
  refine ⟨?_, frozen_of_row _ _ m _ _ hb⟩
  rw [cell_of_row _ _ m _ _ _ hb]
  match m, hm with
  | 0, _ => rfl
  | 1, _ => rfl
  | 2, _ => rfl
end
def nB (m : Nat) : Value := .string (nam m)
def iB (is : Nat → Bool) (m : Nat) : Value := .bool (is m)
def hB (has : Nat → ByteArray) (m : Nat) : Value := .string (has m)
/-- The three blocks of the law. -/
def Y3 (bn bi bh : Nat) (k : Nat) : Prop := k = bn ∨ k = bi ∨ k = bh
structure RS (w0 w : World) (p bn bi bh j : Nat) (is : Nat → Bool) (has : Nat → ByteArray) (F : Fd) : Prop where
  one : OneY w0 w p F (Y3 bn bi bh)
  nb : A3 w bn nB
  ib : A3 w bi (iB is)
  hb : A3 w bh (hB has)
  ni : bn ≠ bi
  nh : bn ≠ bh
  ih : bi ≠ bh
  rd : Rd j is has F
section
variable {w0 w w' : World} {p bn bi bh j : Nat} {is : Nat → Bool} {has : Nat → ByteArray} {F F' : Fd}
theorem RS.gr (h : RS w0 w p bn bi bh j is has F) : Gr w0 w := h.one.gr
theorem RS.grow (h : RS w0 w p bn bi bh j is has F) (hg : Gr w w') : RS w0 w' p bn bi bh j is has F :=
  ⟨(h.one.grow hg).1, h.nb.gr hg, h.ib.gr hg, h.hb.gr hg, h.ni, h.nh, h.ih, h.rd⟩
theorem RS.turn (h : RS w0 w p bn bi bh j is has F) (h1 : OneY w0 w' p F' (Y3 bn bi bh)) (hk : Kept (Y3 bn bi bh) w w') {j' : Nat} {is' : Nat → Bool} {has' : Nat → ByteArray} (hr : Rd j' is' has' F') (hi : is' = is) (hh : has' = has) : RS w0 w' p bn bi bh j' is has F' := by
  subst hi; subst hh
  exact ⟨h1, h.nb.kept hk (.inl rfl), h.ib.kept hk (.inr (.inl rfl)), h.hb.kept hk (.inr (.inr rfl)), h.ni, h.nh, h.ih, hr⟩
end
/-- As RS, but what stands in the blocks is not what the folder has yet. -/
structure RT (w0 w : World) (p bn bi bh j : Nat) (is : Nat → Bool) (has : Nat → ByteArray) (F : Fd) (is' : Nat → Bool) (has' : Nat → ByteArray) : Prop where
  one : OneY w0 w p F (Y3 bn bi bh)
  nb : A3 w bn nB
  ib : A3 w bi (iB is)
  hb : A3 w bh (hB has)
  ni : bn ≠ bi
  nh : bn ≠ bh
  ih : bi ≠ bh
  rd : Rd j is' has' F
section
variable {w0 w w' : World} {p bn bi bh j j' : Nat} {is is' : Nat → Bool} {has has' : Nat → ByteArray} {F F' : Fd}
theorem RS.rt (h : RS w0 w p bn bi bh j is has F) (h1 : OneY w0 w' p F' (Y3 bn bi bh)) (hk : Kept (Y3 bn bi bh) w w') (hr : Rd j' is' has' F') : RT w0 w' p bn bi bh j' is has F' is' has' :=
  ⟨h1, h.nb.kept hk (.inl rfl), h.ib.kept hk (.inr (.inl rfl)), h.hb.kept hk (.inr (.inr rfl)), h.ni, h.nh, h.ih, hr⟩
theorem RT.rs (h : RT w0 w p bn bi bh j is has F is has) : RS w0 w p bn bi bh j is has F := ⟨h.one, h.nb, h.ib, h.hb, h.ni, h.nh, h.ih, h.rd⟩
theorem RT.setI (h : RT w0 w p bn bi bh j is has F is' has') {x : Nat} (v : Bool) : RT w0 (w.setCell ⟨bi, x, none⟩ (.bool v)) p bn bi bh j (upn is x v) has F is' has' :=
  ⟨h.one.set _ (.inr (.inl rfl)), h.nb.far _ h.ni.symm, h.ib.set _ (show Value.bool (upn is x v x) = _ by rw [upn_same]) (fun k hk => show Value.bool (upn is x v k) = _ by rw [upn_ne _ _ hk]; rfl), h.hb.far _ h.ih, h.ni, h.nh, h.ih, h.rd⟩
theorem RT.setH (h : RT w0 w p bn bi bh j is has F is' has') {x : Nat} (v : ByteArray) : RT w0 (w.setCell ⟨bh, x, none⟩ (.string v)) p bn bi bh j is (upn has x v) F is' has' :=
  ⟨h.one.set _ (.inr (.inr rfl)), h.nb.far _ h.nh.symm, h.ib.far _ h.ih.symm, h.hb.set _ (show Value.string (upn has x v x) = _ by rw [upn_same]) (fun k hk => show Value.string (upn has x v k) = _ by rw [upn_ne _ _ hk]; rfl), h.ni, h.nh, h.ih, h.rd⟩
theorem upn_id {α : Type} (f : Nat → α) (x : Nat) (v : α) (h : f x = v) : upn f x v = f := by
  funext k
  by_cases e : k = x
  · subst e; rw [upn_same, h]
  · rw [upn_ne _ _ e]
end
theorem bits_mask (x : Int) (k : Nat) (hk : k ≤ 62) : bits .and .i64 x ((2 ^ k - 1 : Nat) : Int) = x % ((2 ^ k : Nat) : Int) := by
  have hp : 2 ^ k ≤ 2 ^ 62 := Nat.pow_le_pow_right (by decide) hk
  have hp0 : 0 < 2 ^ k := Nat.pow_pos (by decide)
  have h2 : (BitVec.ofInt 64 ((2 ^ k - 1 : Nat) : Int)).toNat = 2 ^ k - 1 := by
    rw [BitVec.ofInt_natCast, BitVec.toNat_ofNat]; exact Nat.mod_eq_of_lt (by omega)
  have h1 : (BitVec.ofInt 64 x).toNat = (x % ((2 ^ 64 : Nat) : Int)).toNat := BitVec.toNat_ofInt x
  have hd : ((2 ^ k : Nat) : Int) ∣ ((2 ^ 64 : Nat) : Int) := Int.natCast_dvd_natCast.2 (Nat.pow_dvd_pow 2 (by omega))
  have h3 : (((x % ((2 ^ 64 : Nat) : Int)).toNat % 2 ^ k : Nat) : Int) = x % ((2 ^ k : Nat) : Int) := by
    rw [Int.natCast_emod, Int.toNat_of_nonneg (Int.emod_nonneg _ (by decide)), Int.emod_emod_of_dvd _ hd]
  show IntKind.i64.wrap ((BitVec.ofInt 64 x &&& BitVec.ofInt 64 ((2 ^ k - 1 : Nat) : Int)).toNat : Int) = _
  rw [BitVec.toNat_and, h1, h2, Nat.and_two_pow_sub_one_eq_mod, h3]
  have h4 := Int.emod_nonneg x (show ((2 ^ k : Nat) : Int) ≠ 0 by omega)
  have h5 := Int.emod_lt_of_pos x (show (0 : Int) < ((2 ^ k : Nat) : Int) by omega)
  exact wrap_id (by unfold I64; omega)
theorem info_op : (Try.prog.info? 47).map (·.size) = some 6 := by kernel_rfl
theorem rs_start {w0 w2 : World} {p : Nat} {F : Fd} {j : Nat} (h : One w0 w2 p F) (hr : Rd j (fun _ => false) (fun _ => ⟨#[]⟩) F) (T1 T2 T3 : TypeId) :
    RS w0 (((w2.alloc (.cells #[.string ⟨#[97]⟩, .string ⟨#[98]⟩, .string ⟨#[99]⟩] T1)).alloc (.cells #[.bool false, .bool false, .bool false] T2)).alloc (.cells #[.string ⟨#[]⟩, .string ⟨#[]⟩, .string ⟨#[]⟩] T3)) p w2.heap.size (w2.heap.size + 1) (w2.heap.size + 1 + 1) j (fun _ => false) (fun _ => ⟨#[]⟩) F := by
  have e1 : (w2.alloc (.cells #[.string ⟨#[97]⟩, .string ⟨#[98]⟩, .string ⟨#[99]⟩] T1)).heap.size = w2.heap.size + 1 := by simp
  have h1 := (h.y.join (.cells #[.string ⟨#[97]⟩, .string ⟨#[98]⟩, .string ⟨#[99]⟩] T1)).1
  have a1 := a3_new w2 T1 nB
  change A3 (w2.alloc (.cells #[.string ⟨#[97]⟩, .string ⟨#[98]⟩, .string ⟨#[99]⟩] T1)) _ _ at a1
  generalize w2.alloc (.cells #[.string ⟨#[97]⟩, .string ⟨#[98]⟩, .string ⟨#[99]⟩] T1) = w3 at *
  have e2 : (w3.alloc (.cells #[.bool false, .bool false, .bool false] T2)).heap.size = w2.heap.size + 1 + 1 := by simp [e1]
  have h2 := (h1.join (.cells #[.bool false, .bool false, .bool false] T2)).1
  have a2 := a3_new w3 T2 (iB fun _ => false)
  change A3 (w3.alloc (.cells #[.bool false, .bool false, .bool false] T2)) _ _ at a2
  have a1' := a1.gr (Gr.al Gr.rfl' (.cells #[.bool false, .bool false, .bool false] T2))
  generalize w3.alloc (.cells #[.bool false, .bool false, .bool false] T2) = w4 at *
  have h3 := (h2.join (.cells #[.string ⟨#[]⟩, .string ⟨#[]⟩, .string ⟨#[]⟩] T3)).1
  have a3 := a3_new w4 T3 (hB fun _ => ⟨#[]⟩)
  change A3 (w4.alloc (.cells #[.string ⟨#[]⟩, .string ⟨#[]⟩, .string ⟨#[]⟩] T3)) _ _ at a3
  have g := Gr.al (Gr.rfl' (w := w4)) (.cells #[.string ⟨#[]⟩, .string ⟨#[]⟩, .string ⟨#[]⟩] T3)
  rw [e1] at a2
  rw [e2] at a3
  refine ⟨h3.sub (fun k hk => ?_), a1'.gr g, a2.gr g, a3, by omega, by omega, by omega, hr⟩
  rcases hk with rfl | rfl | rfl
  · exact .inl (.inl (.inr rfl))
  · exact .inl (.inr e1.symm)
  · exact .inr e2.symm
def cntTo (is : Nat → Bool) : Nat → Nat
  | 0 => 0
  | n + 1 => cntTo is n + b1 (is n)
theorem cntTo_le (is : Nat → Bool) : ∀ m, cntTo is m ≤ m
  | 0 => Nat.le_refl _
  | m + 1 => by
    have h1 := cntTo_le is m
    have h2 : b1 (is m) ≤ 1 := by unfold b1; split <;> omega
    show cntTo is m + b1 (is m) ≤ m + 1
    omega
theorem cntTo_three (is : Nat → Bool) : cntTo is 3 = cnt is := by unfold cnt cntTo cntTo cntTo cntTo; omega
/-- The loop's head. -/
def ReI (w wx : World) (p bn bi bh j : Nat) : Prop := ∃ is has F, RS w wx p bn bi bh j is has F
set_option maxRecDepth 100000 in
set_option maxHeartbeats 8000000 in
theorem reads_law (v0 : Value) (ops : List OpR) (w : World) (hv : rdRow w 6 v0 ops.length (ops.flatMap opC)) (hops : ∀ o ∈ ops, OpOk w o) (hlm : ops.length ≤ maxLen) :
    Calls Try.prog 7 #[v0] w fun e w' => e = .returned (.bool true) ∧ Gr w w' := by
  obtain ⟨a1, c1, rfl, hc1⟩ : ∃ a c, v0 = .slice a ops.length c ∧ ops.length ≤ c := by obtain ⟨_, a, c, e, h, _⟩ := hv; exact ⟨a, c, e, h⟩
  have HV := Lib.hid hv; have HO := Lib.hid hops
  unfold maxLen at hlm
  clear hv hops hc1
  go_enter Try.func7, Try.ntmps7
  go_wp2_with fail
  refine (awake_calls _).mono ?_
  rintro e w1 ⟨rfl, hg1⟩
  have G1 := Lib.hid hg1
  clear hg1
  go_wp2_with fail
  refine (wnew 1000000 _).mono ?_
  rintro e w2 ⟨p, rfl, hw, hg⟩
  have HS := Lib.hid (rs_start (One.new hw hg G1.out) Rd.new 9 44 45)
  clear hw hg G1
  go_wp2_with fail
  obtain ⟨bn, hbn⟩ : ∃ bn, w2.heap.size = bn := ⟨_, rfl⟩
  rw [hbn] at HS ⊢
  clear hbn
  go_loopw [8] (fun iv wr => ∃ j : Nat, j ≤ ops.length ∧ j ≤ 40 ∧ iv = .int .i64 j ∧ Hid (ReI w wr p bn (bn + 1) (bn + 1 + 1) j)) (fun iv _ => ops.length - (intOf iv).toNat)
  case atStart => exact ⟨0, Nat.zero_le _, Nat.zero_le _, rfl, Lib.hid ⟨_, _, _, HS.out⟩⟩
  case round =>
    obtain ⟨j, hj1, hj2, rfl, HI⟩ := hrel
    obtain ⟨is, has, F, hI⟩ := HI.out
    have H1 := Lib.hid hI
    clear hI HI
    generalize bn + 1 + 1 = bh at *
    generalize bn + 1 = bi at *
    by_cases hlt : j < ops.length ∧ j < 40
    · obtain ⟨hl1, hl2⟩ := hlt
      have hl1' : (j : Int) < ops.length := by omega
      have hl2' : (j : Int) < 40 := by omega
      obtain ⟨bs, os, cs, es, _, hrng⟩ := rd_range opC 6 (fun _ => rfl) HV.out (by omega)
      injection es with es1 es2 es3
      subst es1
      have Hrng := Lib.hid (rangeAt_gr H1.out.gr (hrng j hl1))
      have Ho := Lib.hid ((HO.out _ (List.getElem_mem hl1)).gr H1.out.gr)
      clear hrng es3
      obtain ⟨o, ho⟩ : ∃ o, ops[j] = o := ⟨_, rfl⟩
      rw [ho] at Hrng Ho
      clear ho
      have hd1 : o.d.oneCell' = true := by obtain ⟨_, a, c, e, _⟩ := Ho.out.2.2.1; rw [e]; rfl
      have Hd1 := Lib.hid hd1
      clear hd1
      go_upto_if 46 with (first | (refine wpList_load_mid rfl 47 (.tmp 35) rfl bs (os + j * 6) rfl (opC o) _ Hrng.out Try.underlying47 rfl info_op ?_) | (refine wpList_store_blk rfl 47 (.tmp 9) (.tmp 36) rfl wr.heap.size (opC o).toArray rfl rfl _ _ (heap_alloc_new wr _) rfl info_op (opC_one o Hd1.out) (fun w3 b3 g3 s3 => ?_); have c91 := cell_of_row _ _ 1 _ _ _ b3; rw [show ((opC o).toArray)[1]? = some (.int .i64 o.n) from rfl] at c91; have c92 := cell_of_row _ _ 2 _ _ _ b3; rw [show ((opC o).toArray)[2]? = some (.string o.s) from rfl] at c92))
      have hg3 : Gr wr w3 := gr_new (Gr.al Gr.rfl' (.cells #[.int .i64 0, .int .i64 0, .string ⟨#[]⟩, .string ⟨#[]⟩, .string ⟨#[]⟩, .slice none 0 0] 47)) g3 (Nat.le_refl _)
      obtain ⟨A9, eA⟩ : ∃ A, wr.heap.size = A := ⟨_, rfl⟩
      rw [eA] at b3 c91 c92 ⊢
      have B9 := Lib.hid b3
      have H3 := Lib.hid (H1.out.grow hg3)
      have Ho3 := Lib.hid (Ho.out.gr hg3)
      clear b3 g3 s3 hg3 eA H1 Hrng Ho c91 c92
      have hx1 : 0 ≤ bits .and .i64 o.n 1 ∧ bits .and .i64 o.n 1 < 2 := by
        have := bits_mask o.n 1 (by decide)
        rw [show ((2 ^ 1 - 1 : Nat) : Int) = 1 from rfl, show ((2 ^ 1 : Nat) : Int) = 2 from rfl] at this
        rw [this]; omega
      generalize bits .and .i64 o.n 1 = bx at *
      obtain ⟨y, hy, ey⟩ : ∃ y : Nat, y < 3 ∧ (o.s.size : Int) % 3 = (y : Int) := ⟨o.s.size % 3, Nat.mod_lt _ (by decide), rfl⟩
      rw [ey]
      clear ey
      go_cut [10] (fun v wx => ∃ x : Nat, x < 3 ∧ v = .int .i64 x ∧ w3 = wx)
      case first =>
        by_cases hneg : o.n < 0
        · go_wp2_with fail
          go_meet
          exact ⟨2, by decide, rfl, rfl⟩
        · go_wp2_with fail
          go_meet
          exact ⟨bx.toNat, by omega, by congr 1; omega, rfl⟩
      case rest =>
        obtain ⟨x, hx, rfl, rfl⟩ := hcut
        clear hx1 bx
        have c90 : w3.cell? ⟨A9, 0, none⟩ = some (.int .i64 o.k) := (cell_of_row _ _ 0 _ _ _ B9.out).trans rfl
        have c94 : w3.cell? ⟨A9, 4, none⟩ = some (.string o.b) := (cell_of_row _ _ 4 _ _ _ B9.out).trans rfl
        have C94 := Lib.hid c94
        have hxs : (has x).size ≤ 4000 := H3.out.rd.hsz (by omega) hx
        clear c94
        go_upto_if 51 with (fail)
        have hm2 : -4 ≤ o.k.tmod 5 ∧ o.k.tmod 5 ≤ 4 := by
          have h1 := Int.tmod_lt_of_pos o.k (b := 5) (by omega)
          have h2 := Int.lt_tmod_of_pos o.k (b := 5) (by omega)
          omega
        obtain ⟨q, hq⟩ : ∃ q, o.k.tmod 5 = q := ⟨_, rfl⟩
        rw [hq] at hm2 ⊢
        clear hq c90
        go_cut [12] (fun v wx => ∃ k : Int, 0 ≤ k ∧ k ≤ 4 ∧ v = .int .i64 k ∧ w3 = wx)
        case first =>
          by_cases hneg : q < 0
          · have hw : IntKind.i64.wrap (-q) = -q := wrap_id (by unfold I64; omega)
            go_wp2_with fail
            go_meet
            exact ⟨-q, by omega, by omega, rfl, rfl⟩
          · go_wp2_with fail
            go_meet
            exact ⟨q, by omega, by omega, rfl, rfl⟩
        case rest =>
          obtain ⟨k, hk0, hk4, rfl, rfl⟩ := hcut
          clear hm2 q
          have hxl : (x : Int) < 3 := by omega
          have hyl : (y : Int) < 3 := by omega
          have nx : w3.cell? ⟨bn, x, none⟩ = some (.string (nam x)) := (H3.out.nb x hx).1
          have ny : w3.cell? ⟨bn, y, none⟩ = some (.string (nam y)) := (H3.out.nb y hy).1
          go_upto_block 2 with (fail)
          go_cut [12] (fun v wx => ReI w wx p bn bi bh (j + 1))
          case first =>
            have Hxy := Lib.hid (And.intro hx hy)
            obtain ⟨ix, eix⟩ : ∃ b, is x = b := ⟨_, rfl⟩
            have Eix := Lib.hid eix
            clear eix hx hy
            obtain rfl | rfl | rfl | rfl | rfl : k = 0 ∨ k = 1 ∨ k = 2 ∨ k = 3 ∨ k = 4 := by omega
            · cases ix with
              | true =>
                as_aux_lemma =>
                  have ix3 : w3.cell? ⟨bi, x, none⟩ = some (.bool true) := by rw [(H3.out.ib x Hxy.out.1).1]; show some (Value.bool (is x)) = _; rw [Eix.out]
                  go_wp2_with fail
                  refine region_start (S := fun w' => Kept (Y3 bn bi bh) w3 w') (by kernel_rfl) (by exact fun k _ => rfl) (fun wz hz0 hHeld => ?_)
                  simp only [List.size_toArray, List.length_cons, List.length_nil, Nat.reduceAdd]
                  refine wpAnyH_take (i := 0) (oi := ?_) (v := ?_) ?_ (by kernel_rfl) (by kernel_rfl) (by kernel_rfl) ?_ ?_ (by assumption) ?_; rotate_left 2; (focus (simp only [List.getElem?_toArray, List.getElem?_cons_zero]; rfl)); (focus (exact fun _ _ _ h => h)); first | (focus (refine Or.inl ⟨by rfl, ?_⟩; intro w hSw; (try dsimp only at hSw); (try dsimp only [Array.getD]); go_simp; (try with_reducible rfl))) | (focus (refine Or.inr ⟨by rfl, ?_⟩; rfl)) | fail "op 0"
                  try simp only [Act.put, List.setIfInBounds_toArray, List.set_cons_zero, List.set_cons_succ]
                  refine wpAnyH_take (i := 1) (oi := ?_) (v := ?_) ?_ (by kernel_rfl) (by kernel_rfl) (by kernel_rfl) ?_ ?_ (by assumption) ?_; rotate_left 2; (focus (simp only [List.getElem?_toArray, List.getElem?_cons_succ, List.getElem?_cons_zero]; rfl)); (focus (exact fun _ _ _ h => h)); first | (focus (refine Or.inl ⟨by rfl, ?_⟩; intro w hSw; (try dsimp only at hSw); (try dsimp only [Array.getD]); go_simp; (try with_reducible rfl))) | (focus (refine Or.inr ⟨by rfl, ?_⟩; rfl)) | fail "op 1"
                  try simp only [Act.put, List.setIfInBounds_toArray, List.set_cons_zero, List.set_cons_succ]
                  refine wpAnyH_take (i := 2) (oi := ?_) (v := ?_) ?_ (by kernel_rfl) (by kernel_rfl) (by kernel_rfl) ?_ ?_ (by assumption) ?_; rotate_left 2; (focus (simp only [List.getElem?_toArray, List.getElem?_cons_succ, List.getElem?_cons_zero]; rfl)); (focus (exact fun _ _ _ h => h)); first | (focus (refine Or.inl ⟨by rfl, ?_⟩; intro w hSw; (try dsimp only at hSw); (try dsimp only [Array.getD]); go_simp; (try with_reducible rfl))) | (focus (refine Or.inr ⟨by rfl, ?_⟩; rfl)) | fail "op 2"
                  try simp only [Act.put, List.setIfInBounds_toArray, List.set_cons_zero, List.set_cons_succ]
                  refine wpAnyH_take (i := 3) (oi := ?_) (v := ?_) ?_ (by kernel_rfl) (by kernel_rfl) (by kernel_rfl) ?_ ?_ (by assumption) ?_; rotate_left 2; (focus (simp only [List.getElem?_toArray, List.getElem?_cons_succ, List.getElem?_cons_zero]; rfl)); (focus (exact fun _ _ _ h => h)); first | (focus (refine Or.inl ⟨by rfl, ?_⟩; intro w hSw; (try dsimp only at hSw); (try dsimp only [Array.getD]); go_simp; (try with_reducible rfl))) | (focus (refine Or.inr ⟨by rfl, ?_⟩; rfl)) | fail "op 3"
                  try simp only [Act.put, List.setIfInBounds_toArray, List.set_cons_zero, List.set_cons_succ]
                  refine wpAnyH_take (i := 4) (oi := ?_) (v := ?_) ?_ (by kernel_rfl) (by kernel_rfl) (by kernel_rfl) ?_ ?_ (by assumption) ?_; rotate_left 2; (focus (simp only [List.getElem?_toArray, List.getElem?_cons_succ, List.getElem?_cons_zero]; rfl)); (focus (exact fun _ _ _ h => h)); first | (focus (refine Or.inl ⟨by rfl, ?_⟩; intro w hSw; (try dsimp only at hSw); have q1 := (hSw.cell (B := bn) (.inl rfl) x).trans nx; have q2 := (hSw.cell (B := bi) (.inr (.inl rfl)) x).trans ix3; have q3 := (hSw.cell (B := bn) (.inl rfl) y).trans ny; (try dsimp only [Array.getD]); go_simp; (try with_reducible rfl))) | (focus (refine Or.inr ⟨by rfl, ?_⟩; rfl)) | fail "op 4"
                  try simp only [Act.put, List.setIfInBounds_toArray, List.set_cons_zero, List.set_cons_succ]
                  refine wpAnyH_take (i := 7) (oi := ?_) (v := ?_) ?_ (by kernel_rfl) (by kernel_rfl) (by kernel_rfl) ?_ ?_ (by assumption) ?_; rotate_left 2; (focus (simp only [List.getElem?_toArray, List.getElem?_cons_succ, List.getElem?_cons_zero]; rfl)); (focus (exact fun _ _ _ h => h)); first | (focus (refine Or.inl ⟨by rfl, ?_⟩; intro w hSw; (try dsimp only at hSw); (try dsimp only [Array.getD]); go_simp; (try with_reducible rfl))) | (focus (refine Or.inr ⟨by rfl, ?_⟩; rfl)) | fail "op 7"
                  try simp only [Act.put, List.setIfInBounds_toArray, List.set_cons_zero, List.set_cons_succ]
                  refine wpAnyH_take (i := 8) (oi := ?_) (v := ?_) ?_ (by kernel_rfl) (by kernel_rfl) (by kernel_rfl) ?_ ?_ (by assumption) ?_; rotate_left 2; (focus (simp only [List.getElem?_toArray, List.getElem?_cons_succ, List.getElem?_cons_zero]; rfl)); (focus (exact fun _ _ _ h => h)); first | (focus (refine Or.inl ⟨by rfl, ?_⟩; intro w hSw; (try dsimp only at hSw); (try dsimp only [Array.getD]); go_simp; (try with_reducible rfl))) | (focus (refine Or.inr ⟨by rfl, ?_⟩; rfl)) | fail "op 8"
                  try simp only [Act.put, List.setIfInBounds_toArray, List.set_cons_zero, List.set_cons_succ]
                  refine wpAnyH_take (i := 9) (oi := ?_) (v := ?_) ?_ (by kernel_rfl) (by kernel_rfl) (by kernel_rfl) ?_ ?_ (by assumption) ?_; rotate_left 2; (focus (simp only [List.getElem?_toArray, List.getElem?_cons_succ, List.getElem?_cons_zero]; rfl)); (focus (exact fun _ _ _ h => h)); first | (focus (refine Or.inl ⟨by rfl, ?_⟩; intro w hSw; (try dsimp only at hSw); have q1 := (hSw.cell (B := bn) (.inl rfl) x).trans nx; have q2 := (hSw.cell (B := bi) (.inr (.inl rfl)) x).trans ix3; have q3 := (hSw.cell (B := bn) (.inl rfl) y).trans ny; (try dsimp only [Array.getD]); go_simp; (try with_reducible rfl))) | (focus (refine Or.inr ⟨by rfl, ?_⟩; rfl)) | fail "op 9"
                  try simp only [Act.put, List.setIfInBounds_toArray, List.set_cons_zero, List.set_cons_succ]
                  refine wpAnyH_ready (rs := [5]) (by kernel_rfl) (by simp) ?_
                  refine AllReadyH.cons (o := ?_) ?_ (fun K hK => ?_) AllReadyH.nil; rotate_left; (focus (simp only [List.getElem?_toArray, List.getElem?_cons_succ, List.getElem?_cons_zero]; rfl))
                  go_simp
                  go_at_call 12
                  have HZ := Lib.hid (H3.out.grow hz0)
                  refine (HZ.out.one.create (HZ.out.rd.since hj2) (nam x) (show 1 ≤ maxLen by decide)).mono ?_
                  rintro e w4 ⟨rfl, hk, h4⟩
                  obtain ⟨c1, c2⟩ := HZ.out.rd.create_no Hxy.out.1 Eix.out
                  have T4 := Lib.hid (HZ.out.rt (h4.resolve_left (fun z => c1 z.1)).2 hk HZ.out.rd.more)
                  rw [c2]
                  clear h4 c1 c2
                  refine hK.out _ _ (hHeld.tr hk) (fun hHeld => ?_)
                  clear hK K
                  try simp only [Act.put, List.setIfInBounds_toArray, List.set_cons_zero, List.set_cons_succ]
                  refine wpAnyH_take (i := 6) (oi := ?_) (v := ?_) ?_ (by kernel_rfl) (by kernel_rfl) (by kernel_rfl) ?_ ?_ (by assumption) ?_; rotate_left 2; (focus (simp only [List.getElem?_toArray, List.getElem?_cons_succ, List.getElem?_cons_zero]; rfl)); (focus (exact fun _ _ _ h => h)); first | (focus (refine Or.inl ⟨by rfl, ?_⟩; intro w hSw; (try dsimp only at hSw); (try dsimp only [Array.getD]); go_simp; (try with_reducible rfl))) | (focus (refine Or.inr ⟨by rfl, ?_⟩; rfl)) | fail "op 6"
                  try simp only [Act.put, List.setIfInBounds_toArray, List.set_cons_zero, List.set_cons_succ]
                  refine wpAnyH_take (i := 10) (oi := ?_) (v := ?_) ?_ (by kernel_rfl) (by kernel_rfl) (by kernel_rfl) ?_ ?_ (by assumption) ?_; rotate_left 2; (focus (simp only [List.getElem?_toArray, List.getElem?_cons_succ, List.getElem?_cons_zero]; rfl)); (focus (exact fun _ _ _ h => h)); first | (focus (refine Or.inl ⟨by rfl, ?_⟩; intro w hSw; (try dsimp only at hSw); (try dsimp only [Array.getD]); go_simp; (try with_reducible rfl))) | (focus (refine Or.inr ⟨by rfl, ?_⟩; rfl)) | fail "op 10"
                  try simp only [Act.put, List.setIfInBounds_toArray, List.set_cons_zero, List.set_cons_succ]
                  refine wpAnyH_done (by kernel_rfl) ?_ _
                  clear hHeld ix3 nx ny hz0
                  have ci4 : w4.cell? ⟨bi, x, none⟩ = some (.bool true) := by rw [(T4.out.ib x Hxy.out.1).1]; show some (Value.bool (is x)) = _; rw [Eix.out]
                  have cif := (T4.out.ib x Hxy.out.1).2
                  go_wp2_with fail
                  go_meet
                  have h5 := T4.out.setI (x := x) true
                  rw [upn_id is x true Eix.out] at h5
                  exact ⟨_, _, _, h5.rs⟩
              | false =>
                as_aux_lemma =>
                  have ix3 : w3.cell? ⟨bi, x, none⟩ = some (.bool false) := by rw [(H3.out.ib x Hxy.out.1).1]; show some (Value.bool (is x)) = _; rw [Eix.out]
                  go_wp2_with fail
                  refine region_start (S := fun w' => Kept (Y3 bn bi bh) w3 w') (by kernel_rfl) (by exact fun k _ => rfl) (fun wz hz0 hHeld => ?_)
                  simp only [List.size_toArray, List.length_cons, List.length_nil, Nat.reduceAdd]
                  refine wpAnyH_take (i := 0) (oi := ?_) (v := ?_) ?_ (by kernel_rfl) (by kernel_rfl) (by kernel_rfl) ?_ ?_ (by assumption) ?_; rotate_left 2; (focus (simp only [List.getElem?_toArray, List.getElem?_cons_zero]; rfl)); (focus (exact fun _ _ _ h => h)); first | (focus (refine Or.inl ⟨by rfl, ?_⟩; intro w hSw; (try dsimp only at hSw); (try dsimp only [Array.getD]); go_simp; (try with_reducible rfl))) | (focus (refine Or.inr ⟨by rfl, ?_⟩; rfl)) | fail "op 0"
                  try simp only [Act.put, List.setIfInBounds_toArray, List.set_cons_zero, List.set_cons_succ]
                  refine wpAnyH_take (i := 1) (oi := ?_) (v := ?_) ?_ (by kernel_rfl) (by kernel_rfl) (by kernel_rfl) ?_ ?_ (by assumption) ?_; rotate_left 2; (focus (simp only [List.getElem?_toArray, List.getElem?_cons_succ, List.getElem?_cons_zero]; rfl)); (focus (exact fun _ _ _ h => h)); first | (focus (refine Or.inl ⟨by rfl, ?_⟩; intro w hSw; (try dsimp only at hSw); (try dsimp only [Array.getD]); go_simp; (try with_reducible rfl))) | (focus (refine Or.inr ⟨by rfl, ?_⟩; rfl)) | fail "op 1"
                  try simp only [Act.put, List.setIfInBounds_toArray, List.set_cons_zero, List.set_cons_succ]
                  refine wpAnyH_take (i := 2) (oi := ?_) (v := ?_) ?_ (by kernel_rfl) (by kernel_rfl) (by kernel_rfl) ?_ ?_ (by assumption) ?_; rotate_left 2; (focus (simp only [List.getElem?_toArray, List.getElem?_cons_succ, List.getElem?_cons_zero]; rfl)); (focus (exact fun _ _ _ h => h)); first | (focus (refine Or.inl ⟨by rfl, ?_⟩; intro w hSw; (try dsimp only at hSw); (try dsimp only [Array.getD]); go_simp; (try with_reducible rfl))) | (focus (refine Or.inr ⟨by rfl, ?_⟩; rfl)) | fail "op 2"
                  try simp only [Act.put, List.setIfInBounds_toArray, List.set_cons_zero, List.set_cons_succ]
                  refine wpAnyH_take (i := 3) (oi := ?_) (v := ?_) ?_ (by kernel_rfl) (by kernel_rfl) (by kernel_rfl) ?_ ?_ (by assumption) ?_; rotate_left 2; (focus (simp only [List.getElem?_toArray, List.getElem?_cons_succ, List.getElem?_cons_zero]; rfl)); (focus (exact fun _ _ _ h => h)); first | (focus (refine Or.inl ⟨by rfl, ?_⟩; intro w hSw; (try dsimp only at hSw); (try dsimp only [Array.getD]); go_simp; (try with_reducible rfl))) | (focus (refine Or.inr ⟨by rfl, ?_⟩; rfl)) | fail "op 3"
                  try simp only [Act.put, List.setIfInBounds_toArray, List.set_cons_zero, List.set_cons_succ]
                  refine wpAnyH_take (i := 4) (oi := ?_) (v := ?_) ?_ (by kernel_rfl) (by kernel_rfl) (by kernel_rfl) ?_ ?_ (by assumption) ?_; rotate_left 2; (focus (simp only [List.getElem?_toArray, List.getElem?_cons_succ, List.getElem?_cons_zero]; rfl)); (focus (exact fun _ _ _ h => h)); first | (focus (refine Or.inl ⟨by rfl, ?_⟩; intro w hSw; (try dsimp only at hSw); have q1 := (hSw.cell (B := bn) (.inl rfl) x).trans nx; have q2 := (hSw.cell (B := bi) (.inr (.inl rfl)) x).trans ix3; have q3 := (hSw.cell (B := bn) (.inl rfl) y).trans ny; (try dsimp only [Array.getD]); go_simp; (try with_reducible rfl))) | (focus (refine Or.inr ⟨by rfl, ?_⟩; rfl)) | fail "op 4"
                  try simp only [Act.put, List.setIfInBounds_toArray, List.set_cons_zero, List.set_cons_succ]
                  refine wpAnyH_take (i := 7) (oi := ?_) (v := ?_) ?_ (by kernel_rfl) (by kernel_rfl) (by kernel_rfl) ?_ ?_ (by assumption) ?_; rotate_left 2; (focus (simp only [List.getElem?_toArray, List.getElem?_cons_succ, List.getElem?_cons_zero]; rfl)); (focus (exact fun _ _ _ h => h)); first | (focus (refine Or.inl ⟨by rfl, ?_⟩; intro w hSw; (try dsimp only at hSw); (try dsimp only [Array.getD]); go_simp; (try with_reducible rfl))) | (focus (refine Or.inr ⟨by rfl, ?_⟩; rfl)) | fail "op 7"
                  try simp only [Act.put, List.setIfInBounds_toArray, List.set_cons_zero, List.set_cons_succ]
                  refine wpAnyH_take (i := 8) (oi := ?_) (v := ?_) ?_ (by kernel_rfl) (by kernel_rfl) (by kernel_rfl) ?_ ?_ (by assumption) ?_; rotate_left 2; (focus (simp only [List.getElem?_toArray, List.getElem?_cons_succ, List.getElem?_cons_zero]; rfl)); (focus (exact fun _ _ _ h => h)); first | (focus (refine Or.inl ⟨by rfl, ?_⟩; intro w hSw; (try dsimp only at hSw); (try dsimp only [Array.getD]); go_simp; (try with_reducible rfl))) | (focus (refine Or.inr ⟨by rfl, ?_⟩; rfl)) | fail "op 8"
                  try simp only [Act.put, List.setIfInBounds_toArray, List.set_cons_zero, List.set_cons_succ]
                  refine wpAnyH_take (i := 9) (oi := ?_) (v := ?_) ?_ (by kernel_rfl) (by kernel_rfl) (by kernel_rfl) ?_ ?_ (by assumption) ?_; rotate_left 2; (focus (simp only [List.getElem?_toArray, List.getElem?_cons_succ, List.getElem?_cons_zero]; rfl)); (focus (exact fun _ _ _ h => h)); first | (focus (refine Or.inl ⟨by rfl, ?_⟩; intro w hSw; (try dsimp only at hSw); have q1 := (hSw.cell (B := bn) (.inl rfl) x).trans nx; have q2 := (hSw.cell (B := bi) (.inr (.inl rfl)) x).trans ix3; have q3 := (hSw.cell (B := bn) (.inl rfl) y).trans ny; (try dsimp only [Array.getD]); go_simp; (try with_reducible rfl))) | (focus (refine Or.inr ⟨by rfl, ?_⟩; rfl)) | fail "op 9"
                  try simp only [Act.put, List.setIfInBounds_toArray, List.set_cons_zero, List.set_cons_succ]
                  refine wpAnyH_ready (rs := [5]) (by kernel_rfl) (by simp) ?_
                  refine AllReadyH.cons (o := ?_) ?_ (fun K hK => ?_) AllReadyH.nil; rotate_left; (focus (simp only [List.getElem?_toArray, List.getElem?_cons_succ, List.getElem?_cons_zero]; rfl))
                  go_simp
                  go_at_call 12
                  have HZ := Lib.hid (H3.out.grow hz0)
                  refine (HZ.out.one.create (HZ.out.rd.since hj2) (nam x) (show 1 ≤ maxLen by decide)).mono ?_
                  rintro e w4 ⟨rfl, hk, h4⟩
                  obtain ⟨c1, c2, c3⟩ := HZ.out.rd.create Hxy.out.1 Eix.out
                  obtain ⟨n, hn, h5⟩ := (h4.resolve_right (fun z => z.1 c1)).2
                  have T4 := Lib.hid (HZ.out.rt h5 hk (c3 n hn))
                  rw [c2]
                  clear h4 c1 c2 c3 h5 hn
                  refine hK.out _ _ (hHeld.tr hk) (fun hHeld => ?_)
                  clear hK K
                  try simp only [Act.put, List.setIfInBounds_toArray, List.set_cons_zero, List.set_cons_succ]
                  refine wpAnyH_take (i := 6) (oi := ?_) (v := ?_) ?_ (by kernel_rfl) (by kernel_rfl) (by kernel_rfl) ?_ ?_ (by assumption) ?_; rotate_left 2; (focus (simp only [List.getElem?_toArray, List.getElem?_cons_succ, List.getElem?_cons_zero]; rfl)); (focus (exact fun _ _ _ h => h)); first | (focus (refine Or.inl ⟨by rfl, ?_⟩; intro w hSw; (try dsimp only at hSw); (try dsimp only [Array.getD]); go_simp; (try with_reducible rfl))) | (focus (refine Or.inr ⟨by rfl, ?_⟩; rfl)) | fail "op 6"
                  try simp only [Act.put, List.setIfInBounds_toArray, List.set_cons_zero, List.set_cons_succ]
                  refine wpAnyH_take (i := 10) (oi := ?_) (v := ?_) ?_ (by kernel_rfl) (by kernel_rfl) (by kernel_rfl) ?_ ?_ (by assumption) ?_; rotate_left 2; (focus (simp only [List.getElem?_toArray, List.getElem?_cons_succ, List.getElem?_cons_zero]; rfl)); (focus (exact fun _ _ _ h => h)); first | (focus (refine Or.inl ⟨by rfl, ?_⟩; intro w hSw; (try dsimp only at hSw); (try dsimp only [Array.getD]); go_simp; (try with_reducible rfl))) | (focus (refine Or.inr ⟨by rfl, ?_⟩; rfl)) | fail "op 10"
                  try simp only [Act.put, List.setIfInBounds_toArray, List.set_cons_zero, List.set_cons_succ]
                  refine wpAnyH_done (by kernel_rfl) ?_ _
                  clear hHeld ix3 nx ny hz0
                  have ci4 : w4.cell? ⟨bi, x, none⟩ = some (.bool false) := by rw [(T4.out.ib x Hxy.out.1).1]; show some (Value.bool (is x)) = _; rw [Eix.out]
                  have cif := (T4.out.ib x Hxy.out.1).2
                  go_wp2_with fail
                  go_meet
                  exact ⟨_, _, _, (T4.out.setI true).rs⟩
            · cases ix with
              | true =>
                as_aux_lemma =>
                  have ix3 : w3.cell? ⟨bi, x, none⟩ = some (.bool true) := by rw [(H3.out.ib x Hxy.out.1).1]; show some (Value.bool (is x)) = _; rw [Eix.out]
                  have c94 := C94.out
                  go_wp2_with fail
                  refine (short_calls _ 100 (by decide) _).mono ?_
                  rintro e w' ⟨t, rfl, ht, rfl⟩
                  clear c94
                  go_wp2_with fail
                  refine region_start (S := fun w' => Kept (Y3 bn bi bh) w3 w') (by kernel_rfl) (by exact fun k _ => rfl) (fun wz hz0 hHeld => ?_)
                  simp only [List.size_toArray, List.length_cons, List.length_nil, Nat.reduceAdd]
                  refine wpAnyH_take (i := 0) (oi := ?_) (v := ?_) ?_ (by kernel_rfl) (by kernel_rfl) (by kernel_rfl) ?_ ?_ (by assumption) ?_; rotate_left 2; (focus (simp only [List.getElem?_toArray, List.getElem?_cons_zero]; rfl)); (focus (exact fun _ _ _ h => h)); first | (focus (refine Or.inl ⟨by rfl, ?_⟩; intro w hSw; (try dsimp only at hSw); (try dsimp only [Array.getD]); go_simp; (try with_reducible rfl))) | (focus (refine Or.inr ⟨by rfl, ?_⟩; rfl)) | fail "op 0"
                  try simp only [Act.put, List.setIfInBounds_toArray, List.set_cons_zero, List.set_cons_succ]
                  refine wpAnyH_take (i := 1) (oi := ?_) (v := ?_) ?_ (by kernel_rfl) (by kernel_rfl) (by kernel_rfl) ?_ ?_ (by assumption) ?_; rotate_left 2; (focus (simp only [List.getElem?_toArray, List.getElem?_cons_succ, List.getElem?_cons_zero]; rfl)); (focus (exact fun _ _ _ h => h)); first | (focus (refine Or.inl ⟨by rfl, ?_⟩; intro w hSw; (try dsimp only at hSw); (try dsimp only [Array.getD]); go_simp; (try with_reducible rfl))) | (focus (refine Or.inr ⟨by rfl, ?_⟩; rfl)) | fail "op 1"
                  try simp only [Act.put, List.setIfInBounds_toArray, List.set_cons_zero, List.set_cons_succ]
                  refine wpAnyH_take (i := 2) (oi := ?_) (v := ?_) ?_ (by kernel_rfl) (by kernel_rfl) (by kernel_rfl) ?_ ?_ (by assumption) ?_; rotate_left 2; (focus (simp only [List.getElem?_toArray, List.getElem?_cons_succ, List.getElem?_cons_zero]; rfl)); (focus (exact fun _ _ _ h => h)); first | (focus (refine Or.inl ⟨by rfl, ?_⟩; intro w hSw; (try dsimp only at hSw); (try dsimp only [Array.getD]); go_simp; (try with_reducible rfl))) | (focus (refine Or.inr ⟨by rfl, ?_⟩; rfl)) | fail "op 2"
                  try simp only [Act.put, List.setIfInBounds_toArray, List.set_cons_zero, List.set_cons_succ]
                  refine wpAnyH_take (i := 3) (oi := ?_) (v := ?_) ?_ (by kernel_rfl) (by kernel_rfl) (by kernel_rfl) ?_ ?_ (by assumption) ?_; rotate_left 2; (focus (simp only [List.getElem?_toArray, List.getElem?_cons_succ, List.getElem?_cons_zero]; rfl)); (focus (exact fun _ _ _ h => h)); first | (focus (refine Or.inl ⟨by rfl, ?_⟩; intro w hSw; (try dsimp only at hSw); (try dsimp only [Array.getD]); go_simp; (try with_reducible rfl))) | (focus (refine Or.inr ⟨by rfl, ?_⟩; rfl)) | fail "op 3"
                  try simp only [Act.put, List.setIfInBounds_toArray, List.set_cons_zero, List.set_cons_succ]
                  refine wpAnyH_take (i := 4) (oi := ?_) (v := ?_) ?_ (by kernel_rfl) (by kernel_rfl) (by kernel_rfl) ?_ ?_ (by assumption) ?_; rotate_left 2; (focus (simp only [List.getElem?_toArray, List.getElem?_cons_succ, List.getElem?_cons_zero]; rfl)); (focus (exact fun _ _ _ h => h)); first | (focus (refine Or.inl ⟨by rfl, ?_⟩; intro w hSw; (try dsimp only at hSw); have q1 := (hSw.cell (B := bn) (.inl rfl) x).trans nx; have q2 := (hSw.cell (B := bi) (.inr (.inl rfl)) x).trans ix3; have q3 := (hSw.cell (B := bn) (.inl rfl) y).trans ny; (try dsimp only [Array.getD]); go_simp; (try with_reducible rfl))) | (focus (refine Or.inr ⟨by rfl, ?_⟩; rfl)) | fail "op 4"
                  try simp only [Act.put, List.setIfInBounds_toArray, List.set_cons_zero, List.set_cons_succ]
                  refine wpAnyH_take (i := 5) (oi := ?_) (v := ?_) ?_ (by kernel_rfl) (by kernel_rfl) (by kernel_rfl) ?_ ?_ (by assumption) ?_; rotate_left 2; (focus (simp only [List.getElem?_toArray, List.getElem?_cons_succ, List.getElem?_cons_zero]; rfl)); (focus (exact fun _ _ _ h => h)); first | (focus (refine Or.inl ⟨by rfl, ?_⟩; intro w hSw; (try dsimp only at hSw); (try dsimp only [Array.getD]); go_simp; (try with_reducible rfl))) | (focus (refine Or.inr ⟨by rfl, ?_⟩; rfl)) | fail "op 5"
                  try simp only [Act.put, List.setIfInBounds_toArray, List.set_cons_zero, List.set_cons_succ]
                  refine wpAnyH_take (i := 8) (oi := ?_) (v := ?_) ?_ (by kernel_rfl) (by kernel_rfl) (by kernel_rfl) ?_ ?_ (by assumption) ?_; rotate_left 2; (focus (simp only [List.getElem?_toArray, List.getElem?_cons_succ, List.getElem?_cons_zero]; rfl)); (focus (exact fun _ _ _ h => h)); first | (focus (refine Or.inl ⟨by rfl, ?_⟩; intro w hSw; (try dsimp only at hSw); (try dsimp only [Array.getD]); go_simp; (try with_reducible rfl))) | (focus (refine Or.inr ⟨by rfl, ?_⟩; rfl)) | fail "op 8"
                  try simp only [Act.put, List.setIfInBounds_toArray, List.set_cons_zero, List.set_cons_succ]
                  refine wpAnyH_take (i := 9) (oi := ?_) (v := ?_) ?_ (by kernel_rfl) (by kernel_rfl) (by kernel_rfl) ?_ ?_ (by assumption) ?_; rotate_left 2; (focus (simp only [List.getElem?_toArray, List.getElem?_cons_succ, List.getElem?_cons_zero]; rfl)); (focus (exact fun _ _ _ h => h)); first | (focus (refine Or.inl ⟨by rfl, ?_⟩; intro w hSw; (try dsimp only at hSw); (try dsimp only [Array.getD]); go_simp; (try with_reducible rfl))) | (focus (refine Or.inr ⟨by rfl, ?_⟩; rfl)) | fail "op 9"
                  try simp only [Act.put, List.setIfInBounds_toArray, List.set_cons_zero, List.set_cons_succ]
                  refine wpAnyH_take (i := 10) (oi := ?_) (v := ?_) ?_ (by kernel_rfl) (by kernel_rfl) (by kernel_rfl) ?_ ?_ (by assumption) ?_; rotate_left 2; (focus (simp only [List.getElem?_toArray, List.getElem?_cons_succ, List.getElem?_cons_zero]; rfl)); (focus (exact fun _ _ _ h => h)); first | (focus (refine Or.inl ⟨by rfl, ?_⟩; intro w hSw; (try dsimp only at hSw); have q1 := (hSw.cell (B := bn) (.inl rfl) x).trans nx; have q2 := (hSw.cell (B := bi) (.inr (.inl rfl)) x).trans ix3; have q3 := (hSw.cell (B := bn) (.inl rfl) y).trans ny; (try dsimp only [Array.getD]); go_simp; (try with_reducible rfl))) | (focus (refine Or.inr ⟨by rfl, ?_⟩; rfl)) | fail "op 10"
                  try simp only [Act.put, List.setIfInBounds_toArray, List.set_cons_zero, List.set_cons_succ]
                  refine wpAnyH_ready (rs := [6]) (by kernel_rfl) (by simp) ?_
                  refine AllReadyH.cons (o := ?_) ?_ (fun K hK => ?_) AllReadyH.nil; rotate_left; (focus (simp only [List.getElem?_toArray, List.getElem?_cons_succ, List.getElem?_cons_zero]; rfl))
                  go_simp
                  go_at_call 15
                  have HZ := Lib.hid (H3.out.grow hz0)
                  refine (HZ.out.one.append (nam x) t (show 1 ≤ maxLen by decide) (by omega)).mono ?_
                  rintro e w4 ⟨rfl, h4, hk⟩
                  obtain ⟨c1, c2⟩ := HZ.out.rd.app (by omega) Hxy.out.1 Eix.out t (by omega)
                  have T4 := Lib.hid (HZ.out.rt h4 hk c2)
                  rw [c1]
                  clear h4 c1 c2
                  refine hK.out _ _ (hHeld.tr hk) (fun hHeld => ?_)
                  clear hK K
                  try simp only [Act.put, List.setIfInBounds_toArray, List.set_cons_zero, List.set_cons_succ]
                  refine wpAnyH_take (i := 7) (oi := ?_) (v := ?_) ?_ (by kernel_rfl) (by kernel_rfl) (by kernel_rfl) ?_ ?_ (by assumption) ?_; rotate_left 2; (focus (simp only [List.getElem?_toArray, List.getElem?_cons_succ, List.getElem?_cons_zero]; rfl)); (focus (exact fun _ _ _ h => h)); first | (focus (refine Or.inl ⟨by rfl, ?_⟩; intro w hSw; (try dsimp only at hSw); (try dsimp only [Array.getD]); go_simp; (try with_reducible rfl))) | (focus (refine Or.inr ⟨by rfl, ?_⟩; rfl)) | fail "op 7"
                  try simp only [Act.put, List.setIfInBounds_toArray, List.set_cons_zero, List.set_cons_succ]
                  refine wpAnyH_take (i := 11) (oi := ?_) (v := ?_) ?_ (by kernel_rfl) (by kernel_rfl) (by kernel_rfl) ?_ ?_ (by assumption) ?_; rotate_left 2; (focus (simp only [List.getElem?_toArray, List.getElem?_cons_succ, List.getElem?_cons_zero]; rfl)); (focus (exact fun _ _ _ h => h)); first | (focus (refine Or.inl ⟨by rfl, ?_⟩; intro w hSw; (try dsimp only at hSw); (try dsimp only [Array.getD]); go_simp; (try with_reducible rfl))) | (focus (refine Or.inr ⟨by rfl, ?_⟩; rfl)) | fail "op 11"
                  try simp only [Act.put, List.setIfInBounds_toArray, List.set_cons_zero, List.set_cons_succ]
                  refine wpAnyH_done (by kernel_rfl) ?_ _
                  clear hHeld ix3 nx ny hz0
                  have ci4 : w4.cell? ⟨bi, x, none⟩ = some (.bool true) := by rw [(T4.out.ib x Hxy.out.1).1]; show some (Value.bool (is x)) = _; rw [Eix.out]
                  have cif := (T4.out.ib x Hxy.out.1).2
                  have ch4 : w4.cell? ⟨bh, x, none⟩ = some (.string (has x)) := (T4.out.hb x Hxy.out.1).1; have chf := (T4.out.hb x Hxy.out.1).2
                  go_wp2_with fail
                  go_meet
                  exact ⟨_, _, _, (T4.out.setH (has x ++ t)).rs⟩
              | false =>
                as_aux_lemma =>
                  have ix3 : w3.cell? ⟨bi, x, none⟩ = some (.bool false) := by rw [(H3.out.ib x Hxy.out.1).1]; show some (Value.bool (is x)) = _; rw [Eix.out]
                  have c94 := C94.out
                  go_wp2_with fail
                  refine (short_calls _ 100 (by decide) _).mono ?_
                  rintro e w' ⟨t, rfl, ht, rfl⟩
                  clear c94
                  go_wp2_with fail
                  refine region_start (S := fun w' => Kept (Y3 bn bi bh) w3 w') (by kernel_rfl) (by exact fun k _ => rfl) (fun wz hz0 hHeld => ?_)
                  simp only [List.size_toArray, List.length_cons, List.length_nil, Nat.reduceAdd]
                  refine wpAnyH_take (i := 0) (oi := ?_) (v := ?_) ?_ (by kernel_rfl) (by kernel_rfl) (by kernel_rfl) ?_ ?_ (by assumption) ?_; rotate_left 2; (focus (simp only [List.getElem?_toArray, List.getElem?_cons_zero]; rfl)); (focus (exact fun _ _ _ h => h)); first | (focus (refine Or.inl ⟨by rfl, ?_⟩; intro w hSw; (try dsimp only at hSw); (try dsimp only [Array.getD]); go_simp; (try with_reducible rfl))) | (focus (refine Or.inr ⟨by rfl, ?_⟩; rfl)) | fail "op 0"
                  try simp only [Act.put, List.setIfInBounds_toArray, List.set_cons_zero, List.set_cons_succ]
                  refine wpAnyH_take (i := 1) (oi := ?_) (v := ?_) ?_ (by kernel_rfl) (by kernel_rfl) (by kernel_rfl) ?_ ?_ (by assumption) ?_; rotate_left 2; (focus (simp only [List.getElem?_toArray, List.getElem?_cons_succ, List.getElem?_cons_zero]; rfl)); (focus (exact fun _ _ _ h => h)); first | (focus (refine Or.inl ⟨by rfl, ?_⟩; intro w hSw; (try dsimp only at hSw); (try dsimp only [Array.getD]); go_simp; (try with_reducible rfl))) | (focus (refine Or.inr ⟨by rfl, ?_⟩; rfl)) | fail "op 1"
                  try simp only [Act.put, List.setIfInBounds_toArray, List.set_cons_zero, List.set_cons_succ]
                  refine wpAnyH_take (i := 2) (oi := ?_) (v := ?_) ?_ (by kernel_rfl) (by kernel_rfl) (by kernel_rfl) ?_ ?_ (by assumption) ?_; rotate_left 2; (focus (simp only [List.getElem?_toArray, List.getElem?_cons_succ, List.getElem?_cons_zero]; rfl)); (focus (exact fun _ _ _ h => h)); first | (focus (refine Or.inl ⟨by rfl, ?_⟩; intro w hSw; (try dsimp only at hSw); (try dsimp only [Array.getD]); go_simp; (try with_reducible rfl))) | (focus (refine Or.inr ⟨by rfl, ?_⟩; rfl)) | fail "op 2"
                  try simp only [Act.put, List.setIfInBounds_toArray, List.set_cons_zero, List.set_cons_succ]
                  refine wpAnyH_take (i := 3) (oi := ?_) (v := ?_) ?_ (by kernel_rfl) (by kernel_rfl) (by kernel_rfl) ?_ ?_ (by assumption) ?_; rotate_left 2; (focus (simp only [List.getElem?_toArray, List.getElem?_cons_succ, List.getElem?_cons_zero]; rfl)); (focus (exact fun _ _ _ h => h)); first | (focus (refine Or.inl ⟨by rfl, ?_⟩; intro w hSw; (try dsimp only at hSw); (try dsimp only [Array.getD]); go_simp; (try with_reducible rfl))) | (focus (refine Or.inr ⟨by rfl, ?_⟩; rfl)) | fail "op 3"
                  try simp only [Act.put, List.setIfInBounds_toArray, List.set_cons_zero, List.set_cons_succ]
                  refine wpAnyH_take (i := 4) (oi := ?_) (v := ?_) ?_ (by kernel_rfl) (by kernel_rfl) (by kernel_rfl) ?_ ?_ (by assumption) ?_; rotate_left 2; (focus (simp only [List.getElem?_toArray, List.getElem?_cons_succ, List.getElem?_cons_zero]; rfl)); (focus (exact fun _ _ _ h => h)); first | (focus (refine Or.inl ⟨by rfl, ?_⟩; intro w hSw; (try dsimp only at hSw); have q1 := (hSw.cell (B := bn) (.inl rfl) x).trans nx; have q2 := (hSw.cell (B := bi) (.inr (.inl rfl)) x).trans ix3; have q3 := (hSw.cell (B := bn) (.inl rfl) y).trans ny; (try dsimp only [Array.getD]); go_simp; (try with_reducible rfl))) | (focus (refine Or.inr ⟨by rfl, ?_⟩; rfl)) | fail "op 4"
                  try simp only [Act.put, List.setIfInBounds_toArray, List.set_cons_zero, List.set_cons_succ]
                  refine wpAnyH_take (i := 5) (oi := ?_) (v := ?_) ?_ (by kernel_rfl) (by kernel_rfl) (by kernel_rfl) ?_ ?_ (by assumption) ?_; rotate_left 2; (focus (simp only [List.getElem?_toArray, List.getElem?_cons_succ, List.getElem?_cons_zero]; rfl)); (focus (exact fun _ _ _ h => h)); first | (focus (refine Or.inl ⟨by rfl, ?_⟩; intro w hSw; (try dsimp only at hSw); (try dsimp only [Array.getD]); go_simp; (try with_reducible rfl))) | (focus (refine Or.inr ⟨by rfl, ?_⟩; rfl)) | fail "op 5"
                  try simp only [Act.put, List.setIfInBounds_toArray, List.set_cons_zero, List.set_cons_succ]
                  refine wpAnyH_take (i := 8) (oi := ?_) (v := ?_) ?_ (by kernel_rfl) (by kernel_rfl) (by kernel_rfl) ?_ ?_ (by assumption) ?_; rotate_left 2; (focus (simp only [List.getElem?_toArray, List.getElem?_cons_succ, List.getElem?_cons_zero]; rfl)); (focus (exact fun _ _ _ h => h)); first | (focus (refine Or.inl ⟨by rfl, ?_⟩; intro w hSw; (try dsimp only at hSw); (try dsimp only [Array.getD]); go_simp; (try with_reducible rfl))) | (focus (refine Or.inr ⟨by rfl, ?_⟩; rfl)) | fail "op 8"
                  try simp only [Act.put, List.setIfInBounds_toArray, List.set_cons_zero, List.set_cons_succ]
                  refine wpAnyH_take (i := 9) (oi := ?_) (v := ?_) ?_ (by kernel_rfl) (by kernel_rfl) (by kernel_rfl) ?_ ?_ (by assumption) ?_; rotate_left 2; (focus (simp only [List.getElem?_toArray, List.getElem?_cons_succ, List.getElem?_cons_zero]; rfl)); (focus (exact fun _ _ _ h => h)); first | (focus (refine Or.inl ⟨by rfl, ?_⟩; intro w hSw; (try dsimp only at hSw); (try dsimp only [Array.getD]); go_simp; (try with_reducible rfl))) | (focus (refine Or.inr ⟨by rfl, ?_⟩; rfl)) | fail "op 9"
                  try simp only [Act.put, List.setIfInBounds_toArray, List.set_cons_zero, List.set_cons_succ]
                  refine wpAnyH_take (i := 10) (oi := ?_) (v := ?_) ?_ (by kernel_rfl) (by kernel_rfl) (by kernel_rfl) ?_ ?_ (by assumption) ?_; rotate_left 2; (focus (simp only [List.getElem?_toArray, List.getElem?_cons_succ, List.getElem?_cons_zero]; rfl)); (focus (exact fun _ _ _ h => h)); first | (focus (refine Or.inl ⟨by rfl, ?_⟩; intro w hSw; (try dsimp only at hSw); have q1 := (hSw.cell (B := bn) (.inl rfl) x).trans nx; have q2 := (hSw.cell (B := bi) (.inr (.inl rfl)) x).trans ix3; have q3 := (hSw.cell (B := bn) (.inl rfl) y).trans ny; (try dsimp only [Array.getD]); go_simp; (try with_reducible rfl))) | (focus (refine Or.inr ⟨by rfl, ?_⟩; rfl)) | fail "op 10"
                  try simp only [Act.put, List.setIfInBounds_toArray, List.set_cons_zero, List.set_cons_succ]
                  refine wpAnyH_ready (rs := [6]) (by kernel_rfl) (by simp) ?_
                  refine AllReadyH.cons (o := ?_) ?_ (fun K hK => ?_) AllReadyH.nil; rotate_left; (focus (simp only [List.getElem?_toArray, List.getElem?_cons_succ, List.getElem?_cons_zero]; rfl))
                  go_simp
                  go_at_call 15
                  have HZ := Lib.hid (H3.out.grow hz0)
                  refine (HZ.out.one.append (nam x) t (show 1 ≤ maxLen by decide) (by omega)).mono ?_
                  rintro e w4 ⟨rfl, h4, hk⟩
                  obtain ⟨c1, c2⟩ := HZ.out.rd.app_no Hxy.out.1 Eix.out t
                  rw [c2] at h4
                  have T4 := Lib.hid (HZ.out.rt h4 hk HZ.out.rd.more)
                  rw [c1]
                  clear h4 c1 c2
                  refine hK.out _ _ (hHeld.tr hk) (fun hHeld => ?_)
                  clear hK K
                  try simp only [Act.put, List.setIfInBounds_toArray, List.set_cons_zero, List.set_cons_succ]
                  refine wpAnyH_take (i := 7) (oi := ?_) (v := ?_) ?_ (by kernel_rfl) (by kernel_rfl) (by kernel_rfl) ?_ ?_ (by assumption) ?_; rotate_left 2; (focus (simp only [List.getElem?_toArray, List.getElem?_cons_succ, List.getElem?_cons_zero]; rfl)); (focus (exact fun _ _ _ h => h)); first | (focus (refine Or.inl ⟨by rfl, ?_⟩; intro w hSw; (try dsimp only at hSw); (try dsimp only [Array.getD]); go_simp; (try with_reducible rfl))) | (focus (refine Or.inr ⟨by rfl, ?_⟩; rfl)) | fail "op 7"
                  try simp only [Act.put, List.setIfInBounds_toArray, List.set_cons_zero, List.set_cons_succ]
                  refine wpAnyH_take (i := 11) (oi := ?_) (v := ?_) ?_ (by kernel_rfl) (by kernel_rfl) (by kernel_rfl) ?_ ?_ (by assumption) ?_; rotate_left 2; (focus (simp only [List.getElem?_toArray, List.getElem?_cons_succ, List.getElem?_cons_zero]; rfl)); (focus (exact fun _ _ _ h => h)); first | (focus (refine Or.inl ⟨by rfl, ?_⟩; intro w hSw; (try dsimp only at hSw); (try dsimp only [Array.getD]); go_simp; (try with_reducible rfl))) | (focus (refine Or.inr ⟨by rfl, ?_⟩; rfl)) | fail "op 11"
                  try simp only [Act.put, List.setIfInBounds_toArray, List.set_cons_zero, List.set_cons_succ]
                  refine wpAnyH_done (by kernel_rfl) ?_ _
                  clear hHeld ix3 nx ny hz0
                  have ci4 : w4.cell? ⟨bi, x, none⟩ = some (.bool false) := by rw [(T4.out.ib x Hxy.out.1).1]; show some (Value.bool (is x)) = _; rw [Eix.out]
                  have cif := (T4.out.ib x Hxy.out.1).2
                  go_wp2_with fail
                  go_meet
                  exact ⟨_, _, _, T4.out.rs⟩
            · cases ix with
              | true =>
                as_aux_lemma =>
                  have ix3 : w3.cell? ⟨bi, x, none⟩ = some (.bool true) := by rw [(H3.out.ib x Hxy.out.1).1]; show some (Value.bool (is x)) = _; rw [Eix.out]
                  have c94 := C94.out
                  go_wp2_with fail
                  refine (short_calls _ 100 (by decide) _).mono ?_
                  rintro e w' ⟨t, rfl, ht, rfl⟩
                  clear c94
                  go_wp2_with fail
                  refine region_start (S := fun w' => Kept (Y3 bn bi bh) w3 w') (by kernel_rfl) (by exact fun k _ => rfl) (fun wz hz0 hHeld => ?_)
                  simp only [List.size_toArray, List.length_cons, List.length_nil, Nat.reduceAdd]
                  refine wpAnyH_take (i := 0) (oi := ?_) (v := ?_) ?_ (by kernel_rfl) (by kernel_rfl) (by kernel_rfl) ?_ ?_ (by assumption) ?_; rotate_left 2; (focus (simp only [List.getElem?_toArray, List.getElem?_cons_zero]; rfl)); (focus (exact fun _ _ _ h => h)); first | (focus (refine Or.inl ⟨by rfl, ?_⟩; intro w hSw; (try dsimp only at hSw); (try dsimp only [Array.getD]); go_simp; (try with_reducible rfl))) | (focus (refine Or.inr ⟨by rfl, ?_⟩; rfl)) | fail "op 0"
                  try simp only [Act.put, List.setIfInBounds_toArray, List.set_cons_zero, List.set_cons_succ]
                  refine wpAnyH_take (i := 1) (oi := ?_) (v := ?_) ?_ (by kernel_rfl) (by kernel_rfl) (by kernel_rfl) ?_ ?_ (by assumption) ?_; rotate_left 2; (focus (simp only [List.getElem?_toArray, List.getElem?_cons_succ, List.getElem?_cons_zero]; rfl)); (focus (exact fun _ _ _ h => h)); first | (focus (refine Or.inl ⟨by rfl, ?_⟩; intro w hSw; (try dsimp only at hSw); (try dsimp only [Array.getD]); go_simp; (try with_reducible rfl))) | (focus (refine Or.inr ⟨by rfl, ?_⟩; rfl)) | fail "op 1"
                  try simp only [Act.put, List.setIfInBounds_toArray, List.set_cons_zero, List.set_cons_succ]
                  refine wpAnyH_take (i := 2) (oi := ?_) (v := ?_) ?_ (by kernel_rfl) (by kernel_rfl) (by kernel_rfl) ?_ ?_ (by assumption) ?_; rotate_left 2; (focus (simp only [List.getElem?_toArray, List.getElem?_cons_succ, List.getElem?_cons_zero]; rfl)); (focus (exact fun _ _ _ h => h)); first | (focus (refine Or.inl ⟨by rfl, ?_⟩; intro w hSw; (try dsimp only at hSw); (try dsimp only [Array.getD]); go_simp; (try with_reducible rfl))) | (focus (refine Or.inr ⟨by rfl, ?_⟩; rfl)) | fail "op 2"
                  try simp only [Act.put, List.setIfInBounds_toArray, List.set_cons_zero, List.set_cons_succ]
                  refine wpAnyH_take (i := 3) (oi := ?_) (v := ?_) ?_ (by kernel_rfl) (by kernel_rfl) (by kernel_rfl) ?_ ?_ (by assumption) ?_; rotate_left 2; (focus (simp only [List.getElem?_toArray, List.getElem?_cons_succ, List.getElem?_cons_zero]; rfl)); (focus (exact fun _ _ _ h => h)); first | (focus (refine Or.inl ⟨by rfl, ?_⟩; intro w hSw; (try dsimp only at hSw); (try dsimp only [Array.getD]); go_simp; (try with_reducible rfl))) | (focus (refine Or.inr ⟨by rfl, ?_⟩; rfl)) | fail "op 3"
                  try simp only [Act.put, List.setIfInBounds_toArray, List.set_cons_zero, List.set_cons_succ]
                  refine wpAnyH_take (i := 4) (oi := ?_) (v := ?_) ?_ (by kernel_rfl) (by kernel_rfl) (by kernel_rfl) ?_ ?_ (by assumption) ?_; rotate_left 2; (focus (simp only [List.getElem?_toArray, List.getElem?_cons_succ, List.getElem?_cons_zero]; rfl)); (focus (exact fun _ _ _ h => h)); first | (focus (refine Or.inl ⟨by rfl, ?_⟩; intro w hSw; (try dsimp only at hSw); have q1 := (hSw.cell (B := bn) (.inl rfl) x).trans nx; have q2 := (hSw.cell (B := bi) (.inr (.inl rfl)) x).trans ix3; have q3 := (hSw.cell (B := bn) (.inl rfl) y).trans ny; (try dsimp only [Array.getD]); go_simp; (try with_reducible rfl))) | (focus (refine Or.inr ⟨by rfl, ?_⟩; rfl)) | fail "op 4"
                  try simp only [Act.put, List.setIfInBounds_toArray, List.set_cons_zero, List.set_cons_succ]
                  refine wpAnyH_take (i := 5) (oi := ?_) (v := ?_) ?_ (by kernel_rfl) (by kernel_rfl) (by kernel_rfl) ?_ ?_ (by assumption) ?_; rotate_left 2; (focus (simp only [List.getElem?_toArray, List.getElem?_cons_succ, List.getElem?_cons_zero]; rfl)); (focus (exact fun _ _ _ h => h)); first | (focus (refine Or.inl ⟨by rfl, ?_⟩; intro w hSw; (try dsimp only at hSw); (try dsimp only [Array.getD]); go_simp; (try with_reducible rfl))) | (focus (refine Or.inr ⟨by rfl, ?_⟩; rfl)) | fail "op 5"
                  try simp only [Act.put, List.setIfInBounds_toArray, List.set_cons_zero, List.set_cons_succ]
                  refine wpAnyH_take (i := 8) (oi := ?_) (v := ?_) ?_ (by kernel_rfl) (by kernel_rfl) (by kernel_rfl) ?_ ?_ (by assumption) ?_; rotate_left 2; (focus (simp only [List.getElem?_toArray, List.getElem?_cons_succ, List.getElem?_cons_zero]; rfl)); (focus (exact fun _ _ _ h => h)); first | (focus (refine Or.inl ⟨by rfl, ?_⟩; intro w hSw; (try dsimp only at hSw); (try dsimp only [Array.getD]); go_simp; (try with_reducible rfl))) | (focus (refine Or.inr ⟨by rfl, ?_⟩; rfl)) | fail "op 8"
                  try simp only [Act.put, List.setIfInBounds_toArray, List.set_cons_zero, List.set_cons_succ]
                  refine wpAnyH_take (i := 9) (oi := ?_) (v := ?_) ?_ (by kernel_rfl) (by kernel_rfl) (by kernel_rfl) ?_ ?_ (by assumption) ?_; rotate_left 2; (focus (simp only [List.getElem?_toArray, List.getElem?_cons_succ, List.getElem?_cons_zero]; rfl)); (focus (exact fun _ _ _ h => h)); first | (focus (refine Or.inl ⟨by rfl, ?_⟩; intro w hSw; (try dsimp only at hSw); (try dsimp only [Array.getD]); go_simp; (try with_reducible rfl))) | (focus (refine Or.inr ⟨by rfl, ?_⟩; rfl)) | fail "op 9"
                  try simp only [Act.put, List.setIfInBounds_toArray, List.set_cons_zero, List.set_cons_succ]
                  refine wpAnyH_take (i := 10) (oi := ?_) (v := ?_) ?_ (by kernel_rfl) (by kernel_rfl) (by kernel_rfl) ?_ ?_ (by assumption) ?_; rotate_left 2; (focus (simp only [List.getElem?_toArray, List.getElem?_cons_succ, List.getElem?_cons_zero]; rfl)); (focus (exact fun _ _ _ h => h)); first | (focus (refine Or.inl ⟨by rfl, ?_⟩; intro w hSw; (try dsimp only at hSw); have q1 := (hSw.cell (B := bn) (.inl rfl) x).trans nx; have q2 := (hSw.cell (B := bi) (.inr (.inl rfl)) x).trans ix3; have q3 := (hSw.cell (B := bn) (.inl rfl) y).trans ny; (try dsimp only [Array.getD]); go_simp; (try with_reducible rfl))) | (focus (refine Or.inr ⟨by rfl, ?_⟩; rfl)) | fail "op 10"
                  try simp only [Act.put, List.setIfInBounds_toArray, List.set_cons_zero, List.set_cons_succ]
                  refine wpAnyH_ready (rs := [6]) (by kernel_rfl) (by simp) ?_
                  refine AllReadyH.cons (o := ?_) ?_ (fun K hK => ?_) AllReadyH.nil; rotate_left; (focus (simp only [List.getElem?_toArray, List.getElem?_cons_succ, List.getElem?_cons_zero]; rfl))
                  go_simp
                  go_at_call 15
                  have HZ := Lib.hid (H3.out.grow hz0)
                  refine (HZ.out.one.append (nam x) t (show 1 ≤ maxLen by decide) (by omega)).mono ?_
                  rintro e w4 ⟨rfl, h4, hk⟩
                  obtain ⟨c1, c2⟩ := HZ.out.rd.app (by omega) Hxy.out.1 Eix.out t (by omega)
                  have T4 := Lib.hid (HZ.out.rt h4 hk c2)
                  rw [c1]
                  clear h4 c1 c2
                  refine hK.out _ _ (hHeld.tr hk) (fun hHeld => ?_)
                  clear hK K
                  try simp only [Act.put, List.setIfInBounds_toArray, List.set_cons_zero, List.set_cons_succ]
                  refine wpAnyH_take (i := 7) (oi := ?_) (v := ?_) ?_ (by kernel_rfl) (by kernel_rfl) (by kernel_rfl) ?_ ?_ (by assumption) ?_; rotate_left 2; (focus (simp only [List.getElem?_toArray, List.getElem?_cons_succ, List.getElem?_cons_zero]; rfl)); (focus (exact fun _ _ _ h => h)); first | (focus (refine Or.inl ⟨by rfl, ?_⟩; intro w hSw; (try dsimp only at hSw); (try dsimp only [Array.getD]); go_simp; (try with_reducible rfl))) | (focus (refine Or.inr ⟨by rfl, ?_⟩; rfl)) | fail "op 7"
                  try simp only [Act.put, List.setIfInBounds_toArray, List.set_cons_zero, List.set_cons_succ]
                  refine wpAnyH_take (i := 11) (oi := ?_) (v := ?_) ?_ (by kernel_rfl) (by kernel_rfl) (by kernel_rfl) ?_ ?_ (by assumption) ?_; rotate_left 2; (focus (simp only [List.getElem?_toArray, List.getElem?_cons_succ, List.getElem?_cons_zero]; rfl)); (focus (exact fun _ _ _ h => h)); first | (focus (refine Or.inl ⟨by rfl, ?_⟩; intro w hSw; (try dsimp only at hSw); (try dsimp only [Array.getD]); go_simp; (try with_reducible rfl))) | (focus (refine Or.inr ⟨by rfl, ?_⟩; rfl)) | fail "op 11"
                  try simp only [Act.put, List.setIfInBounds_toArray, List.set_cons_zero, List.set_cons_succ]
                  refine wpAnyH_done (by kernel_rfl) ?_ _
                  clear hHeld ix3 nx ny hz0
                  have ci4 : w4.cell? ⟨bi, x, none⟩ = some (.bool true) := by rw [(T4.out.ib x Hxy.out.1).1]; show some (Value.bool (is x)) = _; rw [Eix.out]
                  have cif := (T4.out.ib x Hxy.out.1).2
                  have ch4 : w4.cell? ⟨bh, x, none⟩ = some (.string (has x)) := (T4.out.hb x Hxy.out.1).1; have chf := (T4.out.hb x Hxy.out.1).2
                  go_wp2_with fail
                  go_meet
                  exact ⟨_, _, _, (T4.out.setH (has x ++ t)).rs⟩
              | false =>
                as_aux_lemma =>
                  have ix3 : w3.cell? ⟨bi, x, none⟩ = some (.bool false) := by rw [(H3.out.ib x Hxy.out.1).1]; show some (Value.bool (is x)) = _; rw [Eix.out]
                  have c94 := C94.out
                  go_wp2_with fail
                  refine (short_calls _ 100 (by decide) _).mono ?_
                  rintro e w' ⟨t, rfl, ht, rfl⟩
                  clear c94
                  go_wp2_with fail
                  refine region_start (S := fun w' => Kept (Y3 bn bi bh) w3 w') (by kernel_rfl) (by exact fun k _ => rfl) (fun wz hz0 hHeld => ?_)
                  simp only [List.size_toArray, List.length_cons, List.length_nil, Nat.reduceAdd]
                  refine wpAnyH_take (i := 0) (oi := ?_) (v := ?_) ?_ (by kernel_rfl) (by kernel_rfl) (by kernel_rfl) ?_ ?_ (by assumption) ?_; rotate_left 2; (focus (simp only [List.getElem?_toArray, List.getElem?_cons_zero]; rfl)); (focus (exact fun _ _ _ h => h)); first | (focus (refine Or.inl ⟨by rfl, ?_⟩; intro w hSw; (try dsimp only at hSw); (try dsimp only [Array.getD]); go_simp; (try with_reducible rfl))) | (focus (refine Or.inr ⟨by rfl, ?_⟩; rfl)) | fail "op 0"
                  try simp only [Act.put, List.setIfInBounds_toArray, List.set_cons_zero, List.set_cons_succ]
                  refine wpAnyH_take (i := 1) (oi := ?_) (v := ?_) ?_ (by kernel_rfl) (by kernel_rfl) (by kernel_rfl) ?_ ?_ (by assumption) ?_; rotate_left 2; (focus (simp only [List.getElem?_toArray, List.getElem?_cons_succ, List.getElem?_cons_zero]; rfl)); (focus (exact fun _ _ _ h => h)); first | (focus (refine Or.inl ⟨by rfl, ?_⟩; intro w hSw; (try dsimp only at hSw); (try dsimp only [Array.getD]); go_simp; (try with_reducible rfl))) | (focus (refine Or.inr ⟨by rfl, ?_⟩; rfl)) | fail "op 1"
                  try simp only [Act.put, List.setIfInBounds_toArray, List.set_cons_zero, List.set_cons_succ]
                  refine wpAnyH_take (i := 2) (oi := ?_) (v := ?_) ?_ (by kernel_rfl) (by kernel_rfl) (by kernel_rfl) ?_ ?_ (by assumption) ?_; rotate_left 2; (focus (simp only [List.getElem?_toArray, List.getElem?_cons_succ, List.getElem?_cons_zero]; rfl)); (focus (exact fun _ _ _ h => h)); first | (focus (refine Or.inl ⟨by rfl, ?_⟩; intro w hSw; (try dsimp only at hSw); (try dsimp only [Array.getD]); go_simp; (try with_reducible rfl))) | (focus (refine Or.inr ⟨by rfl, ?_⟩; rfl)) | fail "op 2"
                  try simp only [Act.put, List.setIfInBounds_toArray, List.set_cons_zero, List.set_cons_succ]
                  refine wpAnyH_take (i := 3) (oi := ?_) (v := ?_) ?_ (by kernel_rfl) (by kernel_rfl) (by kernel_rfl) ?_ ?_ (by assumption) ?_; rotate_left 2; (focus (simp only [List.getElem?_toArray, List.getElem?_cons_succ, List.getElem?_cons_zero]; rfl)); (focus (exact fun _ _ _ h => h)); first | (focus (refine Or.inl ⟨by rfl, ?_⟩; intro w hSw; (try dsimp only at hSw); (try dsimp only [Array.getD]); go_simp; (try with_reducible rfl))) | (focus (refine Or.inr ⟨by rfl, ?_⟩; rfl)) | fail "op 3"
                  try simp only [Act.put, List.setIfInBounds_toArray, List.set_cons_zero, List.set_cons_succ]
                  refine wpAnyH_take (i := 4) (oi := ?_) (v := ?_) ?_ (by kernel_rfl) (by kernel_rfl) (by kernel_rfl) ?_ ?_ (by assumption) ?_; rotate_left 2; (focus (simp only [List.getElem?_toArray, List.getElem?_cons_succ, List.getElem?_cons_zero]; rfl)); (focus (exact fun _ _ _ h => h)); first | (focus (refine Or.inl ⟨by rfl, ?_⟩; intro w hSw; (try dsimp only at hSw); have q1 := (hSw.cell (B := bn) (.inl rfl) x).trans nx; have q2 := (hSw.cell (B := bi) (.inr (.inl rfl)) x).trans ix3; have q3 := (hSw.cell (B := bn) (.inl rfl) y).trans ny; (try dsimp only [Array.getD]); go_simp; (try with_reducible rfl))) | (focus (refine Or.inr ⟨by rfl, ?_⟩; rfl)) | fail "op 4"
                  try simp only [Act.put, List.setIfInBounds_toArray, List.set_cons_zero, List.set_cons_succ]
                  refine wpAnyH_take (i := 5) (oi := ?_) (v := ?_) ?_ (by kernel_rfl) (by kernel_rfl) (by kernel_rfl) ?_ ?_ (by assumption) ?_; rotate_left 2; (focus (simp only [List.getElem?_toArray, List.getElem?_cons_succ, List.getElem?_cons_zero]; rfl)); (focus (exact fun _ _ _ h => h)); first | (focus (refine Or.inl ⟨by rfl, ?_⟩; intro w hSw; (try dsimp only at hSw); (try dsimp only [Array.getD]); go_simp; (try with_reducible rfl))) | (focus (refine Or.inr ⟨by rfl, ?_⟩; rfl)) | fail "op 5"
                  try simp only [Act.put, List.setIfInBounds_toArray, List.set_cons_zero, List.set_cons_succ]
                  refine wpAnyH_take (i := 8) (oi := ?_) (v := ?_) ?_ (by kernel_rfl) (by kernel_rfl) (by kernel_rfl) ?_ ?_ (by assumption) ?_; rotate_left 2; (focus (simp only [List.getElem?_toArray, List.getElem?_cons_succ, List.getElem?_cons_zero]; rfl)); (focus (exact fun _ _ _ h => h)); first | (focus (refine Or.inl ⟨by rfl, ?_⟩; intro w hSw; (try dsimp only at hSw); (try dsimp only [Array.getD]); go_simp; (try with_reducible rfl))) | (focus (refine Or.inr ⟨by rfl, ?_⟩; rfl)) | fail "op 8"
                  try simp only [Act.put, List.setIfInBounds_toArray, List.set_cons_zero, List.set_cons_succ]
                  refine wpAnyH_take (i := 9) (oi := ?_) (v := ?_) ?_ (by kernel_rfl) (by kernel_rfl) (by kernel_rfl) ?_ ?_ (by assumption) ?_; rotate_left 2; (focus (simp only [List.getElem?_toArray, List.getElem?_cons_succ, List.getElem?_cons_zero]; rfl)); (focus (exact fun _ _ _ h => h)); first | (focus (refine Or.inl ⟨by rfl, ?_⟩; intro w hSw; (try dsimp only at hSw); (try dsimp only [Array.getD]); go_simp; (try with_reducible rfl))) | (focus (refine Or.inr ⟨by rfl, ?_⟩; rfl)) | fail "op 9"
                  try simp only [Act.put, List.setIfInBounds_toArray, List.set_cons_zero, List.set_cons_succ]
                  refine wpAnyH_take (i := 10) (oi := ?_) (v := ?_) ?_ (by kernel_rfl) (by kernel_rfl) (by kernel_rfl) ?_ ?_ (by assumption) ?_; rotate_left 2; (focus (simp only [List.getElem?_toArray, List.getElem?_cons_succ, List.getElem?_cons_zero]; rfl)); (focus (exact fun _ _ _ h => h)); first | (focus (refine Or.inl ⟨by rfl, ?_⟩; intro w hSw; (try dsimp only at hSw); have q1 := (hSw.cell (B := bn) (.inl rfl) x).trans nx; have q2 := (hSw.cell (B := bi) (.inr (.inl rfl)) x).trans ix3; have q3 := (hSw.cell (B := bn) (.inl rfl) y).trans ny; (try dsimp only [Array.getD]); go_simp; (try with_reducible rfl))) | (focus (refine Or.inr ⟨by rfl, ?_⟩; rfl)) | fail "op 10"
                  try simp only [Act.put, List.setIfInBounds_toArray, List.set_cons_zero, List.set_cons_succ]
                  refine wpAnyH_ready (rs := [6]) (by kernel_rfl) (by simp) ?_
                  refine AllReadyH.cons (o := ?_) ?_ (fun K hK => ?_) AllReadyH.nil; rotate_left; (focus (simp only [List.getElem?_toArray, List.getElem?_cons_succ, List.getElem?_cons_zero]; rfl))
                  go_simp
                  go_at_call 15
                  have HZ := Lib.hid (H3.out.grow hz0)
                  refine (HZ.out.one.append (nam x) t (show 1 ≤ maxLen by decide) (by omega)).mono ?_
                  rintro e w4 ⟨rfl, h4, hk⟩
                  obtain ⟨c1, c2⟩ := HZ.out.rd.app_no Hxy.out.1 Eix.out t
                  rw [c2] at h4
                  have T4 := Lib.hid (HZ.out.rt h4 hk HZ.out.rd.more)
                  rw [c1]
                  clear h4 c1 c2
                  refine hK.out _ _ (hHeld.tr hk) (fun hHeld => ?_)
                  clear hK K
                  try simp only [Act.put, List.setIfInBounds_toArray, List.set_cons_zero, List.set_cons_succ]
                  refine wpAnyH_take (i := 7) (oi := ?_) (v := ?_) ?_ (by kernel_rfl) (by kernel_rfl) (by kernel_rfl) ?_ ?_ (by assumption) ?_; rotate_left 2; (focus (simp only [List.getElem?_toArray, List.getElem?_cons_succ, List.getElem?_cons_zero]; rfl)); (focus (exact fun _ _ _ h => h)); first | (focus (refine Or.inl ⟨by rfl, ?_⟩; intro w hSw; (try dsimp only at hSw); (try dsimp only [Array.getD]); go_simp; (try with_reducible rfl))) | (focus (refine Or.inr ⟨by rfl, ?_⟩; rfl)) | fail "op 7"
                  try simp only [Act.put, List.setIfInBounds_toArray, List.set_cons_zero, List.set_cons_succ]
                  refine wpAnyH_take (i := 11) (oi := ?_) (v := ?_) ?_ (by kernel_rfl) (by kernel_rfl) (by kernel_rfl) ?_ ?_ (by assumption) ?_; rotate_left 2; (focus (simp only [List.getElem?_toArray, List.getElem?_cons_succ, List.getElem?_cons_zero]; rfl)); (focus (exact fun _ _ _ h => h)); first | (focus (refine Or.inl ⟨by rfl, ?_⟩; intro w hSw; (try dsimp only at hSw); (try dsimp only [Array.getD]); go_simp; (try with_reducible rfl))) | (focus (refine Or.inr ⟨by rfl, ?_⟩; rfl)) | fail "op 11"
                  try simp only [Act.put, List.setIfInBounds_toArray, List.set_cons_zero, List.set_cons_succ]
                  refine wpAnyH_done (by kernel_rfl) ?_ _
                  clear hHeld ix3 nx ny hz0
                  have ci4 : w4.cell? ⟨bi, x, none⟩ = some (.bool false) := by rw [(T4.out.ib x Hxy.out.1).1]; show some (Value.bool (is x)) = _; rw [Eix.out]
                  have cif := (T4.out.ib x Hxy.out.1).2
                  go_wp2_with fail
                  go_meet
                  exact ⟨_, _, _, T4.out.rs⟩
            · cases ix with
              | true =>
                as_aux_lemma =>
                  have ix3 : w3.cell? ⟨bi, x, none⟩ = some (.bool true) := by rw [(H3.out.ib x Hxy.out.1).1]; show some (Value.bool (is x)) = _; rw [Eix.out]
                  go_wp2_with fail
                  refine region_start (S := fun w' => Kept (Y3 bn bi bh) w3 w') (by kernel_rfl) (by exact fun k _ => rfl) (fun wz hz0 hHeld => ?_)
                  simp only [List.size_toArray, List.length_cons, List.length_nil, Nat.reduceAdd]
                  refine wpAnyH_take (i := 0) (oi := ?_) (v := ?_) ?_ (by kernel_rfl) (by kernel_rfl) (by kernel_rfl) ?_ ?_ (by assumption) ?_; rotate_left 2; (focus (simp only [List.getElem?_toArray, List.getElem?_cons_zero]; rfl)); (focus (exact fun _ _ _ h => h)); first | (focus (refine Or.inl ⟨by rfl, ?_⟩; intro w hSw; (try dsimp only at hSw); (try dsimp only [Array.getD]); go_simp; (try with_reducible rfl))) | (focus (refine Or.inr ⟨by rfl, ?_⟩; rfl)) | fail "op 0"
                  try simp only [Act.put, List.setIfInBounds_toArray, List.set_cons_zero, List.set_cons_succ]
                  refine wpAnyH_take (i := 1) (oi := ?_) (v := ?_) ?_ (by kernel_rfl) (by kernel_rfl) (by kernel_rfl) ?_ ?_ (by assumption) ?_; rotate_left 2; (focus (simp only [List.getElem?_toArray, List.getElem?_cons_succ, List.getElem?_cons_zero]; rfl)); (focus (exact fun _ _ _ h => h)); first | (focus (refine Or.inl ⟨by rfl, ?_⟩; intro w hSw; (try dsimp only at hSw); (try dsimp only [Array.getD]); go_simp; (try with_reducible rfl))) | (focus (refine Or.inr ⟨by rfl, ?_⟩; rfl)) | fail "op 1"
                  try simp only [Act.put, List.setIfInBounds_toArray, List.set_cons_zero, List.set_cons_succ]
                  refine wpAnyH_take (i := 2) (oi := ?_) (v := ?_) ?_ (by kernel_rfl) (by kernel_rfl) (by kernel_rfl) ?_ ?_ (by assumption) ?_; rotate_left 2; (focus (simp only [List.getElem?_toArray, List.getElem?_cons_succ, List.getElem?_cons_zero]; rfl)); (focus (exact fun _ _ _ h => h)); first | (focus (refine Or.inl ⟨by rfl, ?_⟩; intro w hSw; (try dsimp only at hSw); (try dsimp only [Array.getD]); go_simp; (try with_reducible rfl))) | (focus (refine Or.inr ⟨by rfl, ?_⟩; rfl)) | fail "op 2"
                  try simp only [Act.put, List.setIfInBounds_toArray, List.set_cons_zero, List.set_cons_succ]
                  refine wpAnyH_take (i := 3) (oi := ?_) (v := ?_) ?_ (by kernel_rfl) (by kernel_rfl) (by kernel_rfl) ?_ ?_ (by assumption) ?_; rotate_left 2; (focus (simp only [List.getElem?_toArray, List.getElem?_cons_succ, List.getElem?_cons_zero]; rfl)); (focus (exact fun _ _ _ h => h)); first | (focus (refine Or.inl ⟨by rfl, ?_⟩; intro w hSw; (try dsimp only at hSw); (try dsimp only [Array.getD]); go_simp; (try with_reducible rfl))) | (focus (refine Or.inr ⟨by rfl, ?_⟩; rfl)) | fail "op 3"
                  try simp only [Act.put, List.setIfInBounds_toArray, List.set_cons_zero, List.set_cons_succ]
                  refine wpAnyH_take (i := 4) (oi := ?_) (v := ?_) ?_ (by kernel_rfl) (by kernel_rfl) (by kernel_rfl) ?_ ?_ (by assumption) ?_; rotate_left 2; (focus (simp only [List.getElem?_toArray, List.getElem?_cons_succ, List.getElem?_cons_zero]; rfl)); (focus (exact fun _ _ _ h => h)); first | (focus (refine Or.inl ⟨by rfl, ?_⟩; intro w hSw; (try dsimp only at hSw); have q1 := (hSw.cell (B := bn) (.inl rfl) x).trans nx; have q2 := (hSw.cell (B := bi) (.inr (.inl rfl)) x).trans ix3; have q3 := (hSw.cell (B := bn) (.inl rfl) y).trans ny; (try dsimp only [Array.getD]); go_simp; (try with_reducible rfl))) | (focus (refine Or.inr ⟨by rfl, ?_⟩; rfl)) | fail "op 4"
                  try simp only [Act.put, List.setIfInBounds_toArray, List.set_cons_zero, List.set_cons_succ]
                  refine wpAnyH_take (i := 7) (oi := ?_) (v := ?_) ?_ (by kernel_rfl) (by kernel_rfl) (by kernel_rfl) ?_ ?_ (by assumption) ?_; rotate_left 2; (focus (simp only [List.getElem?_toArray, List.getElem?_cons_succ, List.getElem?_cons_zero]; rfl)); (focus (exact fun _ _ _ h => h)); first | (focus (refine Or.inl ⟨by rfl, ?_⟩; intro w hSw; (try dsimp only at hSw); (try dsimp only [Array.getD]); go_simp; (try with_reducible rfl))) | (focus (refine Or.inr ⟨by rfl, ?_⟩; rfl)) | fail "op 7"
                  try simp only [Act.put, List.setIfInBounds_toArray, List.set_cons_zero, List.set_cons_succ]
                  refine wpAnyH_take (i := 8) (oi := ?_) (v := ?_) ?_ (by kernel_rfl) (by kernel_rfl) (by kernel_rfl) ?_ ?_ (by assumption) ?_; rotate_left 2; (focus (simp only [List.getElem?_toArray, List.getElem?_cons_succ, List.getElem?_cons_zero]; rfl)); (focus (exact fun _ _ _ h => h)); first | (focus (refine Or.inl ⟨by rfl, ?_⟩; intro w hSw; (try dsimp only at hSw); (try dsimp only [Array.getD]); go_simp; (try with_reducible rfl))) | (focus (refine Or.inr ⟨by rfl, ?_⟩; rfl)) | fail "op 8"
                  try simp only [Act.put, List.setIfInBounds_toArray, List.set_cons_zero, List.set_cons_succ]
                  refine wpAnyH_take (i := 9) (oi := ?_) (v := ?_) ?_ (by kernel_rfl) (by kernel_rfl) (by kernel_rfl) ?_ ?_ (by assumption) ?_; rotate_left 2; (focus (simp only [List.getElem?_toArray, List.getElem?_cons_succ, List.getElem?_cons_zero]; rfl)); (focus (exact fun _ _ _ h => h)); first | (focus (refine Or.inl ⟨by rfl, ?_⟩; intro w hSw; (try dsimp only at hSw); have q1 := (hSw.cell (B := bn) (.inl rfl) x).trans nx; have q2 := (hSw.cell (B := bi) (.inr (.inl rfl)) x).trans ix3; have q3 := (hSw.cell (B := bn) (.inl rfl) y).trans ny; (try dsimp only [Array.getD]); go_simp; (try with_reducible rfl))) | (focus (refine Or.inr ⟨by rfl, ?_⟩; rfl)) | fail "op 9"
                  try simp only [Act.put, List.setIfInBounds_toArray, List.set_cons_zero, List.set_cons_succ]
                  refine wpAnyH_ready (rs := [5]) (by kernel_rfl) (by simp) ?_
                  refine AllReadyH.cons (o := ?_) ?_ (fun K hK => ?_) AllReadyH.nil; rotate_left; (focus (simp only [List.getElem?_toArray, List.getElem?_cons_succ, List.getElem?_cons_zero]; rfl))
                  go_simp
                  go_at_call 23
                  have HZ := Lib.hid (H3.out.grow hz0)
                  refine (HZ.out.one.delete (HZ.out.rd.since hj2) (nam x) (show 1 ≤ maxLen by decide)).mono ?_
                  rintro e w4 ⟨rfl, h4, hk⟩
                  obtain ⟨c1, c2⟩ := HZ.out.rd.del Hxy.out.1 Eix.out
                  have T4 := Lib.hid (HZ.out.rt h4 hk c2)
                  rw [c1]
                  clear h4 c1 c2
                  refine hK.out _ _ (hHeld.tr hk) (fun hHeld => ?_)
                  clear hK K
                  try simp only [Act.put, List.setIfInBounds_toArray, List.set_cons_zero, List.set_cons_succ]
                  refine wpAnyH_take (i := 6) (oi := ?_) (v := ?_) ?_ (by kernel_rfl) (by kernel_rfl) (by kernel_rfl) ?_ ?_ (by assumption) ?_; rotate_left 2; (focus (simp only [List.getElem?_toArray, List.getElem?_cons_succ, List.getElem?_cons_zero]; rfl)); (focus (exact fun _ _ _ h => h)); first | (focus (refine Or.inl ⟨by rfl, ?_⟩; intro w hSw; (try dsimp only at hSw); (try dsimp only [Array.getD]); go_simp; (try with_reducible rfl))) | (focus (refine Or.inr ⟨by rfl, ?_⟩; rfl)) | fail "op 6"
                  try simp only [Act.put, List.setIfInBounds_toArray, List.set_cons_zero, List.set_cons_succ]
                  refine wpAnyH_take (i := 10) (oi := ?_) (v := ?_) ?_ (by kernel_rfl) (by kernel_rfl) (by kernel_rfl) ?_ ?_ (by assumption) ?_; rotate_left 2; (focus (simp only [List.getElem?_toArray, List.getElem?_cons_succ, List.getElem?_cons_zero]; rfl)); (focus (exact fun _ _ _ h => h)); first | (focus (refine Or.inl ⟨by rfl, ?_⟩; intro w hSw; (try dsimp only at hSw); (try dsimp only [Array.getD]); go_simp; (try with_reducible rfl))) | (focus (refine Or.inr ⟨by rfl, ?_⟩; rfl)) | fail "op 10"
                  try simp only [Act.put, List.setIfInBounds_toArray, List.set_cons_zero, List.set_cons_succ]
                  refine wpAnyH_done (by kernel_rfl) ?_ _
                  clear hHeld ix3 nx ny hz0
                  have ci4 : w4.cell? ⟨bi, x, none⟩ = some (.bool true) := by rw [(T4.out.ib x Hxy.out.1).1]; show some (Value.bool (is x)) = _; rw [Eix.out]
                  have cif := (T4.out.ib x Hxy.out.1).2
                  have ch4 : w4.cell? ⟨bh, x, none⟩ = some (.string (has x)) := (T4.out.hb x Hxy.out.1).1; have chf := (T4.out.hb x Hxy.out.1).2
                  have hne : bi ≠ bh := T4.out.ih
                  have hne' : bh ≠ bi := hne.symm
                  go_wp2_with fail
                  go_meet
                  exact ⟨_, _, _, ((T4.out.setI false).setH ⟨#[]⟩).rs⟩
              | false =>
                as_aux_lemma =>
                  have ix3 : w3.cell? ⟨bi, x, none⟩ = some (.bool false) := by rw [(H3.out.ib x Hxy.out.1).1]; show some (Value.bool (is x)) = _; rw [Eix.out]
                  go_wp2_with fail
                  refine region_start (S := fun w' => Kept (Y3 bn bi bh) w3 w') (by kernel_rfl) (by exact fun k _ => rfl) (fun wz hz0 hHeld => ?_)
                  simp only [List.size_toArray, List.length_cons, List.length_nil, Nat.reduceAdd]
                  refine wpAnyH_take (i := 0) (oi := ?_) (v := ?_) ?_ (by kernel_rfl) (by kernel_rfl) (by kernel_rfl) ?_ ?_ (by assumption) ?_; rotate_left 2; (focus (simp only [List.getElem?_toArray, List.getElem?_cons_zero]; rfl)); (focus (exact fun _ _ _ h => h)); first | (focus (refine Or.inl ⟨by rfl, ?_⟩; intro w hSw; (try dsimp only at hSw); (try dsimp only [Array.getD]); go_simp; (try with_reducible rfl))) | (focus (refine Or.inr ⟨by rfl, ?_⟩; rfl)) | fail "op 0"
                  try simp only [Act.put, List.setIfInBounds_toArray, List.set_cons_zero, List.set_cons_succ]
                  refine wpAnyH_take (i := 1) (oi := ?_) (v := ?_) ?_ (by kernel_rfl) (by kernel_rfl) (by kernel_rfl) ?_ ?_ (by assumption) ?_; rotate_left 2; (focus (simp only [List.getElem?_toArray, List.getElem?_cons_succ, List.getElem?_cons_zero]; rfl)); (focus (exact fun _ _ _ h => h)); first | (focus (refine Or.inl ⟨by rfl, ?_⟩; intro w hSw; (try dsimp only at hSw); (try dsimp only [Array.getD]); go_simp; (try with_reducible rfl))) | (focus (refine Or.inr ⟨by rfl, ?_⟩; rfl)) | fail "op 1"
                  try simp only [Act.put, List.setIfInBounds_toArray, List.set_cons_zero, List.set_cons_succ]
                  refine wpAnyH_take (i := 2) (oi := ?_) (v := ?_) ?_ (by kernel_rfl) (by kernel_rfl) (by kernel_rfl) ?_ ?_ (by assumption) ?_; rotate_left 2; (focus (simp only [List.getElem?_toArray, List.getElem?_cons_succ, List.getElem?_cons_zero]; rfl)); (focus (exact fun _ _ _ h => h)); first | (focus (refine Or.inl ⟨by rfl, ?_⟩; intro w hSw; (try dsimp only at hSw); (try dsimp only [Array.getD]); go_simp; (try with_reducible rfl))) | (focus (refine Or.inr ⟨by rfl, ?_⟩; rfl)) | fail "op 2"
                  try simp only [Act.put, List.setIfInBounds_toArray, List.set_cons_zero, List.set_cons_succ]
                  refine wpAnyH_take (i := 3) (oi := ?_) (v := ?_) ?_ (by kernel_rfl) (by kernel_rfl) (by kernel_rfl) ?_ ?_ (by assumption) ?_; rotate_left 2; (focus (simp only [List.getElem?_toArray, List.getElem?_cons_succ, List.getElem?_cons_zero]; rfl)); (focus (exact fun _ _ _ h => h)); first | (focus (refine Or.inl ⟨by rfl, ?_⟩; intro w hSw; (try dsimp only at hSw); (try dsimp only [Array.getD]); go_simp; (try with_reducible rfl))) | (focus (refine Or.inr ⟨by rfl, ?_⟩; rfl)) | fail "op 3"
                  try simp only [Act.put, List.setIfInBounds_toArray, List.set_cons_zero, List.set_cons_succ]
                  refine wpAnyH_take (i := 4) (oi := ?_) (v := ?_) ?_ (by kernel_rfl) (by kernel_rfl) (by kernel_rfl) ?_ ?_ (by assumption) ?_; rotate_left 2; (focus (simp only [List.getElem?_toArray, List.getElem?_cons_succ, List.getElem?_cons_zero]; rfl)); (focus (exact fun _ _ _ h => h)); first | (focus (refine Or.inl ⟨by rfl, ?_⟩; intro w hSw; (try dsimp only at hSw); have q1 := (hSw.cell (B := bn) (.inl rfl) x).trans nx; have q2 := (hSw.cell (B := bi) (.inr (.inl rfl)) x).trans ix3; have q3 := (hSw.cell (B := bn) (.inl rfl) y).trans ny; (try dsimp only [Array.getD]); go_simp; (try with_reducible rfl))) | (focus (refine Or.inr ⟨by rfl, ?_⟩; rfl)) | fail "op 4"
                  try simp only [Act.put, List.setIfInBounds_toArray, List.set_cons_zero, List.set_cons_succ]
                  refine wpAnyH_take (i := 7) (oi := ?_) (v := ?_) ?_ (by kernel_rfl) (by kernel_rfl) (by kernel_rfl) ?_ ?_ (by assumption) ?_; rotate_left 2; (focus (simp only [List.getElem?_toArray, List.getElem?_cons_succ, List.getElem?_cons_zero]; rfl)); (focus (exact fun _ _ _ h => h)); first | (focus (refine Or.inl ⟨by rfl, ?_⟩; intro w hSw; (try dsimp only at hSw); (try dsimp only [Array.getD]); go_simp; (try with_reducible rfl))) | (focus (refine Or.inr ⟨by rfl, ?_⟩; rfl)) | fail "op 7"
                  try simp only [Act.put, List.setIfInBounds_toArray, List.set_cons_zero, List.set_cons_succ]
                  refine wpAnyH_take (i := 8) (oi := ?_) (v := ?_) ?_ (by kernel_rfl) (by kernel_rfl) (by kernel_rfl) ?_ ?_ (by assumption) ?_; rotate_left 2; (focus (simp only [List.getElem?_toArray, List.getElem?_cons_succ, List.getElem?_cons_zero]; rfl)); (focus (exact fun _ _ _ h => h)); first | (focus (refine Or.inl ⟨by rfl, ?_⟩; intro w hSw; (try dsimp only at hSw); (try dsimp only [Array.getD]); go_simp; (try with_reducible rfl))) | (focus (refine Or.inr ⟨by rfl, ?_⟩; rfl)) | fail "op 8"
                  try simp only [Act.put, List.setIfInBounds_toArray, List.set_cons_zero, List.set_cons_succ]
                  refine wpAnyH_take (i := 9) (oi := ?_) (v := ?_) ?_ (by kernel_rfl) (by kernel_rfl) (by kernel_rfl) ?_ ?_ (by assumption) ?_; rotate_left 2; (focus (simp only [List.getElem?_toArray, List.getElem?_cons_succ, List.getElem?_cons_zero]; rfl)); (focus (exact fun _ _ _ h => h)); first | (focus (refine Or.inl ⟨by rfl, ?_⟩; intro w hSw; (try dsimp only at hSw); have q1 := (hSw.cell (B := bn) (.inl rfl) x).trans nx; have q2 := (hSw.cell (B := bi) (.inr (.inl rfl)) x).trans ix3; have q3 := (hSw.cell (B := bn) (.inl rfl) y).trans ny; (try dsimp only [Array.getD]); go_simp; (try with_reducible rfl))) | (focus (refine Or.inr ⟨by rfl, ?_⟩; rfl)) | fail "op 9"
                  try simp only [Act.put, List.setIfInBounds_toArray, List.set_cons_zero, List.set_cons_succ]
                  refine wpAnyH_ready (rs := [5]) (by kernel_rfl) (by simp) ?_
                  refine AllReadyH.cons (o := ?_) ?_ (fun K hK => ?_) AllReadyH.nil; rotate_left; (focus (simp only [List.getElem?_toArray, List.getElem?_cons_succ, List.getElem?_cons_zero]; rfl))
                  go_simp
                  go_at_call 23
                  have HZ := Lib.hid (H3.out.grow hz0)
                  refine (HZ.out.one.delete (HZ.out.rd.since hj2) (nam x) (show 1 ≤ maxLen by decide)).mono ?_
                  rintro e w4 ⟨rfl, h4, hk⟩
                  obtain ⟨c1, c2, c3⟩ := HZ.out.rd.del_no Hxy.out.1 Eix.out
                  rw [c2] at h4
                  have T4 := Lib.hid (HZ.out.rt h4 hk HZ.out.rd.more)
                  have C3 := Lib.hid c3
                  rw [c1]
                  clear h4 c1 c2 c3
                  refine hK.out _ _ (hHeld.tr hk) (fun hHeld => ?_)
                  clear hK K
                  try simp only [Act.put, List.setIfInBounds_toArray, List.set_cons_zero, List.set_cons_succ]
                  refine wpAnyH_take (i := 6) (oi := ?_) (v := ?_) ?_ (by kernel_rfl) (by kernel_rfl) (by kernel_rfl) ?_ ?_ (by assumption) ?_; rotate_left 2; (focus (simp only [List.getElem?_toArray, List.getElem?_cons_succ, List.getElem?_cons_zero]; rfl)); (focus (exact fun _ _ _ h => h)); first | (focus (refine Or.inl ⟨by rfl, ?_⟩; intro w hSw; (try dsimp only at hSw); (try dsimp only [Array.getD]); go_simp; (try with_reducible rfl))) | (focus (refine Or.inr ⟨by rfl, ?_⟩; rfl)) | fail "op 6"
                  try simp only [Act.put, List.setIfInBounds_toArray, List.set_cons_zero, List.set_cons_succ]
                  refine wpAnyH_take (i := 10) (oi := ?_) (v := ?_) ?_ (by kernel_rfl) (by kernel_rfl) (by kernel_rfl) ?_ ?_ (by assumption) ?_; rotate_left 2; (focus (simp only [List.getElem?_toArray, List.getElem?_cons_succ, List.getElem?_cons_zero]; rfl)); (focus (exact fun _ _ _ h => h)); first | (focus (refine Or.inl ⟨by rfl, ?_⟩; intro w hSw; (try dsimp only at hSw); (try dsimp only [Array.getD]); go_simp; (try with_reducible rfl))) | (focus (refine Or.inr ⟨by rfl, ?_⟩; rfl)) | fail "op 10"
                  try simp only [Act.put, List.setIfInBounds_toArray, List.set_cons_zero, List.set_cons_succ]
                  refine wpAnyH_done (by kernel_rfl) ?_ _
                  clear hHeld ix3 nx ny hz0
                  have ci4 : w4.cell? ⟨bi, x, none⟩ = some (.bool false) := by rw [(T4.out.ib x Hxy.out.1).1]; show some (Value.bool (is x)) = _; rw [Eix.out]
                  have cif := (T4.out.ib x Hxy.out.1).2
                  have ch4 : w4.cell? ⟨bh, x, none⟩ = some (.string (has x)) := (T4.out.hb x Hxy.out.1).1; have chf := (T4.out.hb x Hxy.out.1).2
                  have hne : bi ≠ bh := T4.out.ih
                  have hne' : bh ≠ bi := hne.symm
                  go_wp2_with fail
                  go_meet
                  have h5 := (T4.out.setI (x := x) false).setH (x := x) ⟨#[]⟩
                  rw [upn_id is x false Eix.out, upn_id has x _ C3.out] at h5
                  exact ⟨_, _, _, h5.rs⟩
            · cases ix with
              | true =>
                as_aux_lemma =>
                  by_cases hxy : x = y
                  · subst hxy
                    have ix3 : w3.cell? ⟨bi, x, none⟩ = some (.bool true) := by rw [(H3.out.ib x Hxy.out.1).1]; show some (Value.bool (is x)) = _; rw [Eix.out]
                    go_wp2_with fail
                    refine region_start (S := fun w' => Kept (Y3 bn bi bh) w3 w') (by kernel_rfl) (by exact fun k _ => rfl) (fun wz hz0 hHeld => ?_)
                    simp only [List.size_toArray, List.length_cons, List.length_nil, Nat.reduceAdd]
                    refine wpAnyH_take (i := 0) (oi := ?_) (v := ?_) ?_ (by kernel_rfl) (by kernel_rfl) (by kernel_rfl) ?_ ?_ (by assumption) ?_; rotate_left 2; (focus (simp only [List.getElem?_toArray, List.getElem?_cons_zero]; rfl)); (focus (exact fun _ _ _ h => h)); first | (focus (refine Or.inl ⟨by rfl, ?_⟩; intro w hSw; (try dsimp only at hSw); (try dsimp only [Array.getD]); go_simp; (try with_reducible rfl))) | (focus (refine Or.inr ⟨by rfl, ?_⟩; rfl)) | fail "op 0"
                    try simp only [Act.put, List.setIfInBounds_toArray, List.set_cons_zero, List.set_cons_succ]
                    refine wpAnyH_take (i := 1) (oi := ?_) (v := ?_) ?_ (by kernel_rfl) (by kernel_rfl) (by kernel_rfl) ?_ ?_ (by assumption) ?_; rotate_left 2; (focus (simp only [List.getElem?_toArray, List.getElem?_cons_succ, List.getElem?_cons_zero]; rfl)); (focus (exact fun _ _ _ h => h)); first | (focus (refine Or.inl ⟨by rfl, ?_⟩; intro w hSw; (try dsimp only at hSw); (try dsimp only [Array.getD]); go_simp; (try with_reducible rfl))) | (focus (refine Or.inr ⟨by rfl, ?_⟩; rfl)) | fail "op 1"
                    try simp only [Act.put, List.setIfInBounds_toArray, List.set_cons_zero, List.set_cons_succ]
                    refine wpAnyH_take (i := 2) (oi := ?_) (v := ?_) ?_ (by kernel_rfl) (by kernel_rfl) (by kernel_rfl) ?_ ?_ (by assumption) ?_; rotate_left 2; (focus (simp only [List.getElem?_toArray, List.getElem?_cons_succ, List.getElem?_cons_zero]; rfl)); (focus (exact fun _ _ _ h => h)); first | (focus (refine Or.inl ⟨by rfl, ?_⟩; intro w hSw; (try dsimp only at hSw); (try dsimp only [Array.getD]); go_simp; (try with_reducible rfl))) | (focus (refine Or.inr ⟨by rfl, ?_⟩; rfl)) | fail "op 2"
                    try simp only [Act.put, List.setIfInBounds_toArray, List.set_cons_zero, List.set_cons_succ]
                    refine wpAnyH_take (i := 3) (oi := ?_) (v := ?_) ?_ (by kernel_rfl) (by kernel_rfl) (by kernel_rfl) ?_ ?_ (by assumption) ?_; rotate_left 2; (focus (simp only [List.getElem?_toArray, List.getElem?_cons_succ, List.getElem?_cons_zero]; rfl)); (focus (exact fun _ _ _ h => h)); first | (focus (refine Or.inl ⟨by rfl, ?_⟩; intro w hSw; (try dsimp only at hSw); (try dsimp only [Array.getD]); go_simp; (try with_reducible rfl))) | (focus (refine Or.inr ⟨by rfl, ?_⟩; rfl)) | fail "op 3"
                    try simp only [Act.put, List.setIfInBounds_toArray, List.set_cons_zero, List.set_cons_succ]
                    refine wpAnyH_take (i := 4) (oi := ?_) (v := ?_) ?_ (by kernel_rfl) (by kernel_rfl) (by kernel_rfl) ?_ ?_ (by assumption) ?_; rotate_left 2; (focus (simp only [List.getElem?_toArray, List.getElem?_cons_succ, List.getElem?_cons_zero]; rfl)); (focus (exact fun _ _ _ h => h)); first | (focus (refine Or.inl ⟨by rfl, ?_⟩; intro w hSw; (try dsimp only at hSw); have q1 := (hSw.cell (B := bn) (.inl rfl) x).trans nx; have q2 := (hSw.cell (B := bi) (.inr (.inl rfl)) x).trans ix3; have q3 := (hSw.cell (B := bn) (.inl rfl) x).trans nx; (try dsimp only [Array.getD]); go_simp; (try with_reducible rfl))) | (focus (refine Or.inr ⟨by rfl, ?_⟩; rfl)) | fail "op 4"
                    try simp only [Act.put, List.setIfInBounds_toArray, List.set_cons_zero, List.set_cons_succ]
                    refine wpAnyH_take (i := 5) (oi := ?_) (v := ?_) ?_ (by kernel_rfl) (by kernel_rfl) (by kernel_rfl) ?_ ?_ (by assumption) ?_; rotate_left 2; (focus (simp only [List.getElem?_toArray, List.getElem?_cons_succ, List.getElem?_cons_zero]; rfl)); (focus (exact fun _ _ _ h => h)); first | (focus (refine Or.inl ⟨by rfl, ?_⟩; intro w hSw; (try dsimp only at hSw); (try dsimp only [Array.getD]); go_simp; (try with_reducible rfl))) | (focus (refine Or.inr ⟨by rfl, ?_⟩; rfl)) | fail "op 5"
                    try simp only [Act.put, List.setIfInBounds_toArray, List.set_cons_zero, List.set_cons_succ]
                    refine wpAnyH_take (i := 6) (oi := ?_) (v := ?_) ?_ (by kernel_rfl) (by kernel_rfl) (by kernel_rfl) ?_ ?_ (by assumption) ?_; rotate_left 2; (focus (simp only [List.getElem?_toArray, List.getElem?_cons_succ, List.getElem?_cons_zero]; rfl)); (focus (exact fun _ _ _ h => h)); first | (focus (refine Or.inl ⟨by rfl, ?_⟩; intro w hSw; (try dsimp only at hSw); (try dsimp only [Array.getD]); go_simp; (try with_reducible rfl))) | (focus (refine Or.inr ⟨by rfl, ?_⟩; rfl)) | fail "op 6"
                    try simp only [Act.put, List.setIfInBounds_toArray, List.set_cons_zero, List.set_cons_succ]
                    refine wpAnyH_take (i := 7) (oi := ?_) (v := ?_) ?_ (by kernel_rfl) (by kernel_rfl) (by kernel_rfl) ?_ ?_ (by assumption) ?_; rotate_left 2; (focus (simp only [List.getElem?_toArray, List.getElem?_cons_succ, List.getElem?_cons_zero]; rfl)); (focus (exact fun _ _ _ h => h)); first | (focus (refine Or.inl ⟨by rfl, ?_⟩; intro w hSw; (try dsimp only at hSw); (try dsimp only [Array.getD]); go_simp; (try with_reducible rfl))) | (focus (refine Or.inr ⟨by rfl, ?_⟩; rfl)) | fail "op 7"
                    try simp only [Act.put, List.setIfInBounds_toArray, List.set_cons_zero, List.set_cons_succ]
                    refine wpAnyH_take (i := 8) (oi := ?_) (v := ?_) ?_ (by kernel_rfl) (by kernel_rfl) (by kernel_rfl) ?_ ?_ (by assumption) ?_; rotate_left 2; (focus (simp only [List.getElem?_toArray, List.getElem?_cons_succ, List.getElem?_cons_zero]; rfl)); (focus (exact fun _ _ _ h => h)); first | (focus (refine Or.inl ⟨by rfl, ?_⟩; intro w hSw; (try dsimp only at hSw); have q1 := (hSw.cell (B := bn) (.inl rfl) x).trans nx; have q2 := (hSw.cell (B := bi) (.inr (.inl rfl)) x).trans ix3; have q3 := (hSw.cell (B := bn) (.inl rfl) x).trans nx; (try dsimp only [Array.getD]); go_simp; (try with_reducible rfl))) | (focus (refine Or.inr ⟨by rfl, ?_⟩; rfl)) | fail "op 8"
                    try simp only [Act.put, List.setIfInBounds_toArray, List.set_cons_zero, List.set_cons_succ]
                    refine wpAnyH_take (i := 11) (oi := ?_) (v := ?_) ?_ (by kernel_rfl) (by kernel_rfl) (by kernel_rfl) ?_ ?_ (by assumption) ?_; rotate_left 2; (focus (simp only [List.getElem?_toArray, List.getElem?_cons_succ, List.getElem?_cons_zero]; rfl)); (focus (exact fun _ _ _ h => h)); first | (focus (refine Or.inl ⟨by rfl, ?_⟩; intro w hSw; (try dsimp only at hSw); (try dsimp only [Array.getD]); go_simp; (try with_reducible rfl))) | (focus (refine Or.inr ⟨by rfl, ?_⟩; rfl)) | fail "op 11"
                    try simp only [Act.put, List.setIfInBounds_toArray, List.set_cons_zero, List.set_cons_succ]
                    refine wpAnyH_take (i := 12) (oi := ?_) (v := ?_) ?_ (by kernel_rfl) (by kernel_rfl) (by kernel_rfl) ?_ ?_ (by assumption) ?_; rotate_left 2; (focus (simp only [List.getElem?_toArray, List.getElem?_cons_succ, List.getElem?_cons_zero]; rfl)); (focus (exact fun _ _ _ h => h)); first | (focus (refine Or.inl ⟨by rfl, ?_⟩; intro w hSw; (try dsimp only at hSw); (try dsimp only [Array.getD]); go_simp; (try with_reducible rfl))) | (focus (refine Or.inr ⟨by rfl, ?_⟩; rfl)) | fail "op 12"
                    try simp only [Act.put, List.setIfInBounds_toArray, List.set_cons_zero, List.set_cons_succ]
                    refine wpAnyH_take (i := 13) (oi := ?_) (v := ?_) ?_ (by kernel_rfl) (by kernel_rfl) (by kernel_rfl) ?_ ?_ (by assumption) ?_; rotate_left 2; (focus (simp only [List.getElem?_toArray, List.getElem?_cons_succ, List.getElem?_cons_zero]; rfl)); (focus (exact fun _ _ _ h => h)); first | (focus (refine Or.inl ⟨by rfl, ?_⟩; intro w hSw; (try dsimp only at hSw); have q1 := (hSw.cell (B := bn) (.inl rfl) x).trans nx; have q2 := (hSw.cell (B := bi) (.inr (.inl rfl)) x).trans ix3; have q3 := (hSw.cell (B := bn) (.inl rfl) x).trans nx; (try dsimp only [Array.getD]); go_simp; (try with_reducible rfl))) | (focus (refine Or.inr ⟨by rfl, ?_⟩; rfl)) | fail "op 13"
                    try simp only [Act.put, List.setIfInBounds_toArray, List.set_cons_zero, List.set_cons_succ]
                    refine wpAnyH_ready (rs := [9]) (by kernel_rfl) (by simp) ?_
                    refine AllReadyH.cons (o := ?_) ?_ (fun K hK => ?_) AllReadyH.nil; rotate_left; (focus (simp only [List.getElem?_toArray, List.getElem?_cons_succ, List.getElem?_cons_zero]; rfl))
                    go_simp
                    go_at_call 22
                    have HZ := Lib.hid (H3.out.grow hz0)
                    refine (HZ.out.one.rename (HZ.out.rd.since hj2) (nam x) (nam x) (show 1 ≤ maxLen by decide) (show 1 ≤ maxLen by decide)).mono ?_
                    rintro e w4 ⟨rfl, h4, hk⟩
                    obtain ⟨c1, c2⟩ := HZ.out.rd.ren_same Hxy.out.1 Eix.out
                    have T4 := Lib.hid (HZ.out.rt h4 hk c2)
                    rw [c1]
                    clear h4 c1 c2
                    refine hK.out _ _ (hHeld.tr hk) (fun hHeld => ?_)
                    clear hK K
                    try simp only [Act.put, List.setIfInBounds_toArray, List.set_cons_zero, List.set_cons_succ]
                    refine wpAnyH_take (i := 10) (oi := ?_) (v := ?_) ?_ (by kernel_rfl) (by kernel_rfl) (by kernel_rfl) ?_ ?_ (by assumption) ?_; rotate_left 2; (focus (simp only [List.getElem?_toArray, List.getElem?_cons_succ, List.getElem?_cons_zero]; rfl)); (focus (exact fun _ _ _ h => h)); first | (focus (refine Or.inl ⟨by rfl, ?_⟩; intro w hSw; (try dsimp only at hSw); (try dsimp only [Array.getD]); go_simp; (try with_reducible rfl))) | (focus (refine Or.inr ⟨by rfl, ?_⟩; rfl)) | fail "op 10"
                    try simp only [Act.put, List.setIfInBounds_toArray, List.set_cons_zero, List.set_cons_succ]
                    refine wpAnyH_take (i := 14) (oi := ?_) (v := ?_) ?_ (by kernel_rfl) (by kernel_rfl) (by kernel_rfl) ?_ ?_ (by assumption) ?_; rotate_left 2; (focus (simp only [List.getElem?_toArray, List.getElem?_cons_succ, List.getElem?_cons_zero]; rfl)); (focus (exact fun _ _ _ h => h)); first | (focus (refine Or.inl ⟨by rfl, ?_⟩; intro w hSw; (try dsimp only at hSw); (try dsimp only [Array.getD]); go_simp; (try with_reducible rfl))) | (focus (refine Or.inr ⟨by rfl, ?_⟩; rfl)) | fail "op 14"
                    try simp only [Act.put, List.setIfInBounds_toArray, List.set_cons_zero, List.set_cons_succ]
                    refine wpAnyH_done (by kernel_rfl) ?_ _
                    clear hHeld ix3 nx ny hz0
                    have ci4 : w4.cell? ⟨bi, x, none⟩ = some (.bool true) := by rw [(T4.out.ib x Hxy.out.1).1]; show some (Value.bool (is x)) = _; rw [Eix.out]
                    have cif := (T4.out.ib x Hxy.out.1).2
                    go_wp2_with fail
                    go_meet
                    exact ⟨_, _, _, T4.out.rs⟩
                  · have ix3 : w3.cell? ⟨bi, x, none⟩ = some (.bool true) := by rw [(H3.out.ib x Hxy.out.1).1]; show some (Value.bool (is x)) = _; rw [Eix.out]
                    go_wp2_with fail
                    refine region_start (S := fun w' => Kept (Y3 bn bi bh) w3 w') (by kernel_rfl) (by exact fun k _ => rfl) (fun wz hz0 hHeld => ?_)
                    simp only [List.size_toArray, List.length_cons, List.length_nil, Nat.reduceAdd]
                    refine wpAnyH_take (i := 0) (oi := ?_) (v := ?_) ?_ (by kernel_rfl) (by kernel_rfl) (by kernel_rfl) ?_ ?_ (by assumption) ?_; rotate_left 2; (focus (simp only [List.getElem?_toArray, List.getElem?_cons_zero]; rfl)); (focus (exact fun _ _ _ h => h)); first | (focus (refine Or.inl ⟨by rfl, ?_⟩; intro w hSw; (try dsimp only at hSw); (try dsimp only [Array.getD]); go_simp; (try with_reducible rfl))) | (focus (refine Or.inr ⟨by rfl, ?_⟩; rfl)) | fail "op 0"
                    try simp only [Act.put, List.setIfInBounds_toArray, List.set_cons_zero, List.set_cons_succ]
                    refine wpAnyH_take (i := 1) (oi := ?_) (v := ?_) ?_ (by kernel_rfl) (by kernel_rfl) (by kernel_rfl) ?_ ?_ (by assumption) ?_; rotate_left 2; (focus (simp only [List.getElem?_toArray, List.getElem?_cons_succ, List.getElem?_cons_zero]; rfl)); (focus (exact fun _ _ _ h => h)); first | (focus (refine Or.inl ⟨by rfl, ?_⟩; intro w hSw; (try dsimp only at hSw); (try dsimp only [Array.getD]); go_simp; (try with_reducible rfl))) | (focus (refine Or.inr ⟨by rfl, ?_⟩; rfl)) | fail "op 1"
                    try simp only [Act.put, List.setIfInBounds_toArray, List.set_cons_zero, List.set_cons_succ]
                    refine wpAnyH_take (i := 2) (oi := ?_) (v := ?_) ?_ (by kernel_rfl) (by kernel_rfl) (by kernel_rfl) ?_ ?_ (by assumption) ?_; rotate_left 2; (focus (simp only [List.getElem?_toArray, List.getElem?_cons_succ, List.getElem?_cons_zero]; rfl)); (focus (exact fun _ _ _ h => h)); first | (focus (refine Or.inl ⟨by rfl, ?_⟩; intro w hSw; (try dsimp only at hSw); (try dsimp only [Array.getD]); go_simp; (try with_reducible rfl))) | (focus (refine Or.inr ⟨by rfl, ?_⟩; rfl)) | fail "op 2"
                    try simp only [Act.put, List.setIfInBounds_toArray, List.set_cons_zero, List.set_cons_succ]
                    refine wpAnyH_take (i := 3) (oi := ?_) (v := ?_) ?_ (by kernel_rfl) (by kernel_rfl) (by kernel_rfl) ?_ ?_ (by assumption) ?_; rotate_left 2; (focus (simp only [List.getElem?_toArray, List.getElem?_cons_succ, List.getElem?_cons_zero]; rfl)); (focus (exact fun _ _ _ h => h)); first | (focus (refine Or.inl ⟨by rfl, ?_⟩; intro w hSw; (try dsimp only at hSw); (try dsimp only [Array.getD]); go_simp; (try with_reducible rfl))) | (focus (refine Or.inr ⟨by rfl, ?_⟩; rfl)) | fail "op 3"
                    try simp only [Act.put, List.setIfInBounds_toArray, List.set_cons_zero, List.set_cons_succ]
                    refine wpAnyH_take (i := 4) (oi := ?_) (v := ?_) ?_ (by kernel_rfl) (by kernel_rfl) (by kernel_rfl) ?_ ?_ (by assumption) ?_; rotate_left 2; (focus (simp only [List.getElem?_toArray, List.getElem?_cons_succ, List.getElem?_cons_zero]; rfl)); (focus (exact fun _ _ _ h => h)); first | (focus (refine Or.inl ⟨by rfl, ?_⟩; intro w hSw; (try dsimp only at hSw); have q1 := (hSw.cell (B := bn) (.inl rfl) x).trans nx; have q2 := (hSw.cell (B := bi) (.inr (.inl rfl)) x).trans ix3; have q3 := (hSw.cell (B := bn) (.inl rfl) y).trans ny; (try dsimp only [Array.getD]); go_simp; (try with_reducible rfl))) | (focus (refine Or.inr ⟨by rfl, ?_⟩; rfl)) | fail "op 4"
                    try simp only [Act.put, List.setIfInBounds_toArray, List.set_cons_zero, List.set_cons_succ]
                    refine wpAnyH_take (i := 5) (oi := ?_) (v := ?_) ?_ (by kernel_rfl) (by kernel_rfl) (by kernel_rfl) ?_ ?_ (by assumption) ?_; rotate_left 2; (focus (simp only [List.getElem?_toArray, List.getElem?_cons_succ, List.getElem?_cons_zero]; rfl)); (focus (exact fun _ _ _ h => h)); first | (focus (refine Or.inl ⟨by rfl, ?_⟩; intro w hSw; (try dsimp only at hSw); (try dsimp only [Array.getD]); go_simp; (try with_reducible rfl))) | (focus (refine Or.inr ⟨by rfl, ?_⟩; rfl)) | fail "op 5"
                    try simp only [Act.put, List.setIfInBounds_toArray, List.set_cons_zero, List.set_cons_succ]
                    refine wpAnyH_take (i := 6) (oi := ?_) (v := ?_) ?_ (by kernel_rfl) (by kernel_rfl) (by kernel_rfl) ?_ ?_ (by assumption) ?_; rotate_left 2; (focus (simp only [List.getElem?_toArray, List.getElem?_cons_succ, List.getElem?_cons_zero]; rfl)); (focus (exact fun _ _ _ h => h)); first | (focus (refine Or.inl ⟨by rfl, ?_⟩; intro w hSw; (try dsimp only at hSw); (try dsimp only [Array.getD]); go_simp; (try with_reducible rfl))) | (focus (refine Or.inr ⟨by rfl, ?_⟩; rfl)) | fail "op 6"
                    try simp only [Act.put, List.setIfInBounds_toArray, List.set_cons_zero, List.set_cons_succ]
                    refine wpAnyH_take (i := 7) (oi := ?_) (v := ?_) ?_ (by kernel_rfl) (by kernel_rfl) (by kernel_rfl) ?_ ?_ (by assumption) ?_; rotate_left 2; (focus (simp only [List.getElem?_toArray, List.getElem?_cons_succ, List.getElem?_cons_zero]; rfl)); (focus (exact fun _ _ _ h => h)); first | (focus (refine Or.inl ⟨by rfl, ?_⟩; intro w hSw; (try dsimp only at hSw); (try dsimp only [Array.getD]); go_simp; (try with_reducible rfl))) | (focus (refine Or.inr ⟨by rfl, ?_⟩; rfl)) | fail "op 7"
                    try simp only [Act.put, List.setIfInBounds_toArray, List.set_cons_zero, List.set_cons_succ]
                    refine wpAnyH_take (i := 8) (oi := ?_) (v := ?_) ?_ (by kernel_rfl) (by kernel_rfl) (by kernel_rfl) ?_ ?_ (by assumption) ?_; rotate_left 2; (focus (simp only [List.getElem?_toArray, List.getElem?_cons_succ, List.getElem?_cons_zero]; rfl)); (focus (exact fun _ _ _ h => h)); first | (focus (refine Or.inl ⟨by rfl, ?_⟩; intro w hSw; (try dsimp only at hSw); have q1 := (hSw.cell (B := bn) (.inl rfl) x).trans nx; have q2 := (hSw.cell (B := bi) (.inr (.inl rfl)) x).trans ix3; have q3 := (hSw.cell (B := bn) (.inl rfl) y).trans ny; (try dsimp only [Array.getD]); go_simp; (try with_reducible rfl))) | (focus (refine Or.inr ⟨by rfl, ?_⟩; rfl)) | fail "op 8"
                    try simp only [Act.put, List.setIfInBounds_toArray, List.set_cons_zero, List.set_cons_succ]
                    refine wpAnyH_take (i := 11) (oi := ?_) (v := ?_) ?_ (by kernel_rfl) (by kernel_rfl) (by kernel_rfl) ?_ ?_ (by assumption) ?_; rotate_left 2; (focus (simp only [List.getElem?_toArray, List.getElem?_cons_succ, List.getElem?_cons_zero]; rfl)); (focus (exact fun _ _ _ h => h)); first | (focus (refine Or.inl ⟨by rfl, ?_⟩; intro w hSw; (try dsimp only at hSw); (try dsimp only [Array.getD]); go_simp; (try with_reducible rfl))) | (focus (refine Or.inr ⟨by rfl, ?_⟩; rfl)) | fail "op 11"
                    try simp only [Act.put, List.setIfInBounds_toArray, List.set_cons_zero, List.set_cons_succ]
                    refine wpAnyH_take (i := 12) (oi := ?_) (v := ?_) ?_ (by kernel_rfl) (by kernel_rfl) (by kernel_rfl) ?_ ?_ (by assumption) ?_; rotate_left 2; (focus (simp only [List.getElem?_toArray, List.getElem?_cons_succ, List.getElem?_cons_zero]; rfl)); (focus (exact fun _ _ _ h => h)); first | (focus (refine Or.inl ⟨by rfl, ?_⟩; intro w hSw; (try dsimp only at hSw); (try dsimp only [Array.getD]); go_simp; (try with_reducible rfl))) | (focus (refine Or.inr ⟨by rfl, ?_⟩; rfl)) | fail "op 12"
                    try simp only [Act.put, List.setIfInBounds_toArray, List.set_cons_zero, List.set_cons_succ]
                    refine wpAnyH_take (i := 13) (oi := ?_) (v := ?_) ?_ (by kernel_rfl) (by kernel_rfl) (by kernel_rfl) ?_ ?_ (by assumption) ?_; rotate_left 2; (focus (simp only [List.getElem?_toArray, List.getElem?_cons_succ, List.getElem?_cons_zero]; rfl)); (focus (exact fun _ _ _ h => h)); first | (focus (refine Or.inl ⟨by rfl, ?_⟩; intro w hSw; (try dsimp only at hSw); have q1 := (hSw.cell (B := bn) (.inl rfl) x).trans nx; have q2 := (hSw.cell (B := bi) (.inr (.inl rfl)) x).trans ix3; have q3 := (hSw.cell (B := bn) (.inl rfl) y).trans ny; (try dsimp only [Array.getD]); go_simp; (try with_reducible rfl))) | (focus (refine Or.inr ⟨by rfl, ?_⟩; rfl)) | fail "op 13"
                    try simp only [Act.put, List.setIfInBounds_toArray, List.set_cons_zero, List.set_cons_succ]
                    refine wpAnyH_ready (rs := [9]) (by kernel_rfl) (by simp) ?_
                    refine AllReadyH.cons (o := ?_) ?_ (fun K hK => ?_) AllReadyH.nil; rotate_left; (focus (simp only [List.getElem?_toArray, List.getElem?_cons_succ, List.getElem?_cons_zero]; rfl))
                    go_simp
                    go_at_call 22
                    have HZ := Lib.hid (H3.out.grow hz0)
                    refine (HZ.out.one.rename (HZ.out.rd.since hj2) (nam x) (nam y) (show 1 ≤ maxLen by decide) (show 1 ≤ maxLen by decide)).mono ?_
                    rintro e w4 ⟨rfl, h4, hk⟩
                    obtain ⟨c1, c2⟩ := HZ.out.rd.ren Hxy.out.1 Hxy.out.2 hxy Eix.out
                    have T4 := Lib.hid (HZ.out.rt h4 hk c2)
                    rw [c1]
                    clear h4 c1 c2
                    refine hK.out _ _ (hHeld.tr hk) (fun hHeld => ?_)
                    clear hK K
                    try simp only [Act.put, List.setIfInBounds_toArray, List.set_cons_zero, List.set_cons_succ]
                    refine wpAnyH_take (i := 10) (oi := ?_) (v := ?_) ?_ (by kernel_rfl) (by kernel_rfl) (by kernel_rfl) ?_ ?_ (by assumption) ?_; rotate_left 2; (focus (simp only [List.getElem?_toArray, List.getElem?_cons_succ, List.getElem?_cons_zero]; rfl)); (focus (exact fun _ _ _ h => h)); first | (focus (refine Or.inl ⟨by rfl, ?_⟩; intro w hSw; (try dsimp only at hSw); (try dsimp only [Array.getD]); go_simp; (try with_reducible rfl))) | (focus (refine Or.inr ⟨by rfl, ?_⟩; rfl)) | fail "op 10"
                    try simp only [Act.put, List.setIfInBounds_toArray, List.set_cons_zero, List.set_cons_succ]
                    refine wpAnyH_take (i := 14) (oi := ?_) (v := ?_) ?_ (by kernel_rfl) (by kernel_rfl) (by kernel_rfl) ?_ ?_ (by assumption) ?_; rotate_left 2; (focus (simp only [List.getElem?_toArray, List.getElem?_cons_succ, List.getElem?_cons_zero]; rfl)); (focus (exact fun _ _ _ h => h)); first | (focus (refine Or.inl ⟨by rfl, ?_⟩; intro w hSw; (try dsimp only at hSw); (try dsimp only [Array.getD]); go_simp; (try with_reducible rfl))) | (focus (refine Or.inr ⟨by rfl, ?_⟩; rfl)) | fail "op 14"
                    try simp only [Act.put, List.setIfInBounds_toArray, List.set_cons_zero, List.set_cons_succ]
                    refine wpAnyH_done (by kernel_rfl) ?_ _
                    clear hHeld ix3 nx ny hz0
                    have ci4 : w4.cell? ⟨bi, x, none⟩ = some (.bool true) := by rw [(T4.out.ib x Hxy.out.1).1]; show some (Value.bool (is x)) = _; rw [Eix.out]
                    have cif := (T4.out.ib x Hxy.out.1).2
                    have ch4 : w4.cell? ⟨bh, x, none⟩ = some (.string (has x)) := (T4.out.hb x Hxy.out.1).1; have chf := (T4.out.hb x Hxy.out.1).2
                    have cj4 := (T4.out.ib y Hxy.out.2).1; have cjf := (T4.out.ib y Hxy.out.2).2
                    have cg4 := (T4.out.hb y Hxy.out.2).1; have cgf := (T4.out.hb y Hxy.out.2).2
                    have hxb : ((x : Int) == (y : Int)) = false := by simp; omega
                    have hxn : ¬ x = y := hxy
                    have hyn : ¬ y = x := fun z => hxy z.symm
                    have hne : bi ≠ bh := T4.out.ih
                    have hne' : bh ≠ bi := hne.symm
                    go_wp2_with fail
                    go_meet
                    exact ⟨_, _, _, ((((T4.out.setI true).setH (has x)).setI false).setH ⟨#[]⟩).rs⟩
              | false =>
                as_aux_lemma =>
                  have ix3 : w3.cell? ⟨bi, x, none⟩ = some (.bool false) := by rw [(H3.out.ib x Hxy.out.1).1]; show some (Value.bool (is x)) = _; rw [Eix.out]
                  go_wp2_with fail
                  refine region_start (S := fun w' => Kept (Y3 bn bi bh) w3 w') (by kernel_rfl) (by exact fun k _ => rfl) (fun wz hz0 hHeld => ?_)
                  simp only [List.size_toArray, List.length_cons, List.length_nil, Nat.reduceAdd]
                  refine wpAnyH_take (i := 0) (oi := ?_) (v := ?_) ?_ (by kernel_rfl) (by kernel_rfl) (by kernel_rfl) ?_ ?_ (by assumption) ?_; rotate_left 2; (focus (simp only [List.getElem?_toArray, List.getElem?_cons_zero]; rfl)); (focus (exact fun _ _ _ h => h)); first | (focus (refine Or.inl ⟨by rfl, ?_⟩; intro w hSw; (try dsimp only at hSw); (try dsimp only [Array.getD]); go_simp; (try with_reducible rfl))) | (focus (refine Or.inr ⟨by rfl, ?_⟩; rfl)) | fail "op 0"
                  try simp only [Act.put, List.setIfInBounds_toArray, List.set_cons_zero, List.set_cons_succ]
                  refine wpAnyH_take (i := 1) (oi := ?_) (v := ?_) ?_ (by kernel_rfl) (by kernel_rfl) (by kernel_rfl) ?_ ?_ (by assumption) ?_; rotate_left 2; (focus (simp only [List.getElem?_toArray, List.getElem?_cons_succ, List.getElem?_cons_zero]; rfl)); (focus (exact fun _ _ _ h => h)); first | (focus (refine Or.inl ⟨by rfl, ?_⟩; intro w hSw; (try dsimp only at hSw); (try dsimp only [Array.getD]); go_simp; (try with_reducible rfl))) | (focus (refine Or.inr ⟨by rfl, ?_⟩; rfl)) | fail "op 1"
                  try simp only [Act.put, List.setIfInBounds_toArray, List.set_cons_zero, List.set_cons_succ]
                  refine wpAnyH_take (i := 2) (oi := ?_) (v := ?_) ?_ (by kernel_rfl) (by kernel_rfl) (by kernel_rfl) ?_ ?_ (by assumption) ?_; rotate_left 2; (focus (simp only [List.getElem?_toArray, List.getElem?_cons_succ, List.getElem?_cons_zero]; rfl)); (focus (exact fun _ _ _ h => h)); first | (focus (refine Or.inl ⟨by rfl, ?_⟩; intro w hSw; (try dsimp only at hSw); (try dsimp only [Array.getD]); go_simp; (try with_reducible rfl))) | (focus (refine Or.inr ⟨by rfl, ?_⟩; rfl)) | fail "op 2"
                  try simp only [Act.put, List.setIfInBounds_toArray, List.set_cons_zero, List.set_cons_succ]
                  refine wpAnyH_take (i := 3) (oi := ?_) (v := ?_) ?_ (by kernel_rfl) (by kernel_rfl) (by kernel_rfl) ?_ ?_ (by assumption) ?_; rotate_left 2; (focus (simp only [List.getElem?_toArray, List.getElem?_cons_succ, List.getElem?_cons_zero]; rfl)); (focus (exact fun _ _ _ h => h)); first | (focus (refine Or.inl ⟨by rfl, ?_⟩; intro w hSw; (try dsimp only at hSw); (try dsimp only [Array.getD]); go_simp; (try with_reducible rfl))) | (focus (refine Or.inr ⟨by rfl, ?_⟩; rfl)) | fail "op 3"
                  try simp only [Act.put, List.setIfInBounds_toArray, List.set_cons_zero, List.set_cons_succ]
                  refine wpAnyH_take (i := 4) (oi := ?_) (v := ?_) ?_ (by kernel_rfl) (by kernel_rfl) (by kernel_rfl) ?_ ?_ (by assumption) ?_; rotate_left 2; (focus (simp only [List.getElem?_toArray, List.getElem?_cons_succ, List.getElem?_cons_zero]; rfl)); (focus (exact fun _ _ _ h => h)); first | (focus (refine Or.inl ⟨by rfl, ?_⟩; intro w hSw; (try dsimp only at hSw); have q1 := (hSw.cell (B := bn) (.inl rfl) x).trans nx; have q2 := (hSw.cell (B := bi) (.inr (.inl rfl)) x).trans ix3; have q3 := (hSw.cell (B := bn) (.inl rfl) y).trans ny; (try dsimp only [Array.getD]); go_simp; (try with_reducible rfl))) | (focus (refine Or.inr ⟨by rfl, ?_⟩; rfl)) | fail "op 4"
                  try simp only [Act.put, List.setIfInBounds_toArray, List.set_cons_zero, List.set_cons_succ]
                  refine wpAnyH_take (i := 5) (oi := ?_) (v := ?_) ?_ (by kernel_rfl) (by kernel_rfl) (by kernel_rfl) ?_ ?_ (by assumption) ?_; rotate_left 2; (focus (simp only [List.getElem?_toArray, List.getElem?_cons_succ, List.getElem?_cons_zero]; rfl)); (focus (exact fun _ _ _ h => h)); first | (focus (refine Or.inl ⟨by rfl, ?_⟩; intro w hSw; (try dsimp only at hSw); (try dsimp only [Array.getD]); go_simp; (try with_reducible rfl))) | (focus (refine Or.inr ⟨by rfl, ?_⟩; rfl)) | fail "op 5"
                  try simp only [Act.put, List.setIfInBounds_toArray, List.set_cons_zero, List.set_cons_succ]
                  refine wpAnyH_take (i := 6) (oi := ?_) (v := ?_) ?_ (by kernel_rfl) (by kernel_rfl) (by kernel_rfl) ?_ ?_ (by assumption) ?_; rotate_left 2; (focus (simp only [List.getElem?_toArray, List.getElem?_cons_succ, List.getElem?_cons_zero]; rfl)); (focus (exact fun _ _ _ h => h)); first | (focus (refine Or.inl ⟨by rfl, ?_⟩; intro w hSw; (try dsimp only at hSw); (try dsimp only [Array.getD]); go_simp; (try with_reducible rfl))) | (focus (refine Or.inr ⟨by rfl, ?_⟩; rfl)) | fail "op 6"
                  try simp only [Act.put, List.setIfInBounds_toArray, List.set_cons_zero, List.set_cons_succ]
                  refine wpAnyH_take (i := 7) (oi := ?_) (v := ?_) ?_ (by kernel_rfl) (by kernel_rfl) (by kernel_rfl) ?_ ?_ (by assumption) ?_; rotate_left 2; (focus (simp only [List.getElem?_toArray, List.getElem?_cons_succ, List.getElem?_cons_zero]; rfl)); (focus (exact fun _ _ _ h => h)); first | (focus (refine Or.inl ⟨by rfl, ?_⟩; intro w hSw; (try dsimp only at hSw); (try dsimp only [Array.getD]); go_simp; (try with_reducible rfl))) | (focus (refine Or.inr ⟨by rfl, ?_⟩; rfl)) | fail "op 7"
                  try simp only [Act.put, List.setIfInBounds_toArray, List.set_cons_zero, List.set_cons_succ]
                  refine wpAnyH_take (i := 8) (oi := ?_) (v := ?_) ?_ (by kernel_rfl) (by kernel_rfl) (by kernel_rfl) ?_ ?_ (by assumption) ?_; rotate_left 2; (focus (simp only [List.getElem?_toArray, List.getElem?_cons_succ, List.getElem?_cons_zero]; rfl)); (focus (exact fun _ _ _ h => h)); first | (focus (refine Or.inl ⟨by rfl, ?_⟩; intro w hSw; (try dsimp only at hSw); have q1 := (hSw.cell (B := bn) (.inl rfl) x).trans nx; have q2 := (hSw.cell (B := bi) (.inr (.inl rfl)) x).trans ix3; have q3 := (hSw.cell (B := bn) (.inl rfl) y).trans ny; (try dsimp only [Array.getD]); go_simp; (try with_reducible rfl))) | (focus (refine Or.inr ⟨by rfl, ?_⟩; rfl)) | fail "op 8"
                  try simp only [Act.put, List.setIfInBounds_toArray, List.set_cons_zero, List.set_cons_succ]
                  refine wpAnyH_take (i := 11) (oi := ?_) (v := ?_) ?_ (by kernel_rfl) (by kernel_rfl) (by kernel_rfl) ?_ ?_ (by assumption) ?_; rotate_left 2; (focus (simp only [List.getElem?_toArray, List.getElem?_cons_succ, List.getElem?_cons_zero]; rfl)); (focus (exact fun _ _ _ h => h)); first | (focus (refine Or.inl ⟨by rfl, ?_⟩; intro w hSw; (try dsimp only at hSw); (try dsimp only [Array.getD]); go_simp; (try with_reducible rfl))) | (focus (refine Or.inr ⟨by rfl, ?_⟩; rfl)) | fail "op 11"
                  try simp only [Act.put, List.setIfInBounds_toArray, List.set_cons_zero, List.set_cons_succ]
                  refine wpAnyH_take (i := 12) (oi := ?_) (v := ?_) ?_ (by kernel_rfl) (by kernel_rfl) (by kernel_rfl) ?_ ?_ (by assumption) ?_; rotate_left 2; (focus (simp only [List.getElem?_toArray, List.getElem?_cons_succ, List.getElem?_cons_zero]; rfl)); (focus (exact fun _ _ _ h => h)); first | (focus (refine Or.inl ⟨by rfl, ?_⟩; intro w hSw; (try dsimp only at hSw); (try dsimp only [Array.getD]); go_simp; (try with_reducible rfl))) | (focus (refine Or.inr ⟨by rfl, ?_⟩; rfl)) | fail "op 12"
                  try simp only [Act.put, List.setIfInBounds_toArray, List.set_cons_zero, List.set_cons_succ]
                  refine wpAnyH_take (i := 13) (oi := ?_) (v := ?_) ?_ (by kernel_rfl) (by kernel_rfl) (by kernel_rfl) ?_ ?_ (by assumption) ?_; rotate_left 2; (focus (simp only [List.getElem?_toArray, List.getElem?_cons_succ, List.getElem?_cons_zero]; rfl)); (focus (exact fun _ _ _ h => h)); first | (focus (refine Or.inl ⟨by rfl, ?_⟩; intro w hSw; (try dsimp only at hSw); have q1 := (hSw.cell (B := bn) (.inl rfl) x).trans nx; have q2 := (hSw.cell (B := bi) (.inr (.inl rfl)) x).trans ix3; have q3 := (hSw.cell (B := bn) (.inl rfl) y).trans ny; (try dsimp only [Array.getD]); go_simp; (try with_reducible rfl))) | (focus (refine Or.inr ⟨by rfl, ?_⟩; rfl)) | fail "op 13"
                  try simp only [Act.put, List.setIfInBounds_toArray, List.set_cons_zero, List.set_cons_succ]
                  refine wpAnyH_ready (rs := [9]) (by kernel_rfl) (by simp) ?_
                  refine AllReadyH.cons (o := ?_) ?_ (fun K hK => ?_) AllReadyH.nil; rotate_left; (focus (simp only [List.getElem?_toArray, List.getElem?_cons_succ, List.getElem?_cons_zero]; rfl))
                  go_simp
                  go_at_call 22
                  have HZ := Lib.hid (H3.out.grow hz0)
                  refine (HZ.out.one.rename (HZ.out.rd.since hj2) (nam x) (nam y) (show 1 ≤ maxLen by decide) (show 1 ≤ maxLen by decide)).mono ?_
                  rintro e w4 ⟨rfl, h4, hk⟩
                  obtain ⟨c1, c2⟩ := HZ.out.rd.ren_no Hxy.out.1 Hxy.out.2 Eix.out
                  rw [c2] at h4
                  have T4 := Lib.hid (HZ.out.rt h4 hk HZ.out.rd.more)
                  rw [c1]
                  clear h4 c1 c2
                  refine hK.out _ _ (hHeld.tr hk) (fun hHeld => ?_)
                  clear hK K
                  try simp only [Act.put, List.setIfInBounds_toArray, List.set_cons_zero, List.set_cons_succ]
                  refine wpAnyH_take (i := 10) (oi := ?_) (v := ?_) ?_ (by kernel_rfl) (by kernel_rfl) (by kernel_rfl) ?_ ?_ (by assumption) ?_; rotate_left 2; (focus (simp only [List.getElem?_toArray, List.getElem?_cons_succ, List.getElem?_cons_zero]; rfl)); (focus (exact fun _ _ _ h => h)); first | (focus (refine Or.inl ⟨by rfl, ?_⟩; intro w hSw; (try dsimp only at hSw); (try dsimp only [Array.getD]); go_simp; (try with_reducible rfl))) | (focus (refine Or.inr ⟨by rfl, ?_⟩; rfl)) | fail "op 10"
                  try simp only [Act.put, List.setIfInBounds_toArray, List.set_cons_zero, List.set_cons_succ]
                  refine wpAnyH_take (i := 14) (oi := ?_) (v := ?_) ?_ (by kernel_rfl) (by kernel_rfl) (by kernel_rfl) ?_ ?_ (by assumption) ?_; rotate_left 2; (focus (simp only [List.getElem?_toArray, List.getElem?_cons_succ, List.getElem?_cons_zero]; rfl)); (focus (exact fun _ _ _ h => h)); first | (focus (refine Or.inl ⟨by rfl, ?_⟩; intro w hSw; (try dsimp only at hSw); (try dsimp only [Array.getD]); go_simp; (try with_reducible rfl))) | (focus (refine Or.inr ⟨by rfl, ?_⟩; rfl)) | fail "op 14"
                  try simp only [Act.put, List.setIfInBounds_toArray, List.set_cons_zero, List.set_cons_succ]
                  refine wpAnyH_done (by kernel_rfl) ?_ _
                  clear hHeld ix3 nx ny hz0
                  have ci4 : w4.cell? ⟨bi, x, none⟩ = some (.bool false) := by rw [(T4.out.ib x Hxy.out.1).1]; show some (Value.bool (is x)) = _; rw [Eix.out]
                  have cif := (T4.out.ib x Hxy.out.1).2
                  go_wp2_with fail
                  go_meet
                  exact ⟨_, _, _, T4.out.rs⟩
          case rest =>
            obtain ⟨is', has', F', hI⟩ := hcut
            have H5 := Lib.hid hI
            clear hI nx ny H3 Ho3 B9 C94 Hd1 hxl hyl
            obtain ⟨wo, rfl⟩ : ∃ wo : World, wo = wr := ⟨_, rfl⟩
            go_wp2_with fail
            go_loopw [14, 15] (fun mv nv wr => ∃ n : Nat, n ≤ 3 ∧ nv = .int .i64 n ∧ mv = .int .i64 (cntTo is' n) ∧ Hid (RS w wr p bn bi bh (j + 1) is' has' F')) (fun _ nv _ => 3 - (intOf nv).toNat)
            case atStart => exact ⟨0, by decide, rfl, rfl, H5⟩
            case round =>
              obtain ⟨n, hn, rfl, rfl, HR⟩ := hrel
              by_cases hn3 : n < 3
              · have hnl : (n : Int) < 3 := by omega
                have nn : wr.cell? ⟨bn, n, none⟩ = some (.string (nam n)) := (HR.out.nb n hn3).1
                go_wp2_with fail
                refine (HR.out.one.read (nam n) (show 1 ≤ maxLen by decide)).mono ?_
                rintro e w6 ⟨rfl, h6, hk6⟩
                obtain ⟨r1, r2, r3⟩ := HR.out.rd.read hn3
                have R6 := Lib.hid (HR.out.turn h6 hk6 HR.out.rd rfl rfl)
                have ch6 : w6.cell? ⟨bh, n, none⟩ = some (.string (has' n)) := (R6.out.hb n hn3).1
                have ci6 : w6.cell? ⟨bi, n, none⟩ = some (.bool (is' n)) := (R6.out.ib n hn3).1
                have hcn : cntTo is' n ≤ n := cntTo_le is' n
                have hsc : cntTo is' (n + 1) = cntTo is' n + b1 (is' n) := rfl
                rw [r3]
                clear h6 hk6 r3
                obtain ⟨b, hb⟩ : ∃ b, is' n = b := ⟨_, rfl⟩
                rw [hb] at ci6 r1 r2 hsc
                have HC := Lib.hid (And.intro hsc hcn)
                clear hb hsc hcn
                obtain ⟨cc, hcc⟩ : ∃ cc, cntTo is' n = cc := ⟨_, rfl⟩
                rw [hcc] at HC ⊢
                clear hcc
                cases b with
                | true =>
                  as_aux_lemma =>
                    rw [r1 rfl]
                    clear r1 r2
                    have hw : IntKind.i64.wrap ((cc : Int) + 1) = (cc : Int) + 1 := wrap_id (by have := HC.out.2; unfold I64; omega)
                    go_wp2_with fail
                    go_roundw
                    case rel => exact ⟨n + 1, by omega, by go_num, (by rw [HC.out.1]; rfl), R6⟩
                    case measure => simp [intOf]; omega
                | false =>
                  as_aux_lemma =>
                    rw [r2 rfl]
                    clear r1 r2
                    go_wp2_with fail
                    go_roundw
                    case rel => exact ⟨n + 1, by omega, by go_num, (by rw [HC.out.1]; rfl), R6⟩
                    case measure => simp [intOf]; omega
              · obtain rfl : n = 3 := by omega
                go_wp2_with fail
                refine HR.out.one.names.mono ?_
                rintro e w7 ⟨v, rfl, ho, h7, hk7⟩
                obtain ⟨a7, c7, rfl⟩ := own_slice ho
                rw [HR.out.rd.len, ← cntTo_three]
                have R7 := Lib.hid (HR.out.turn h7 hk7 HR.out.rd rfl rfl)
                clear ho h7 hk7
                go_wp2_with fail
                refine ⟨⟨j + 1, by omega, by omega, by go_num, Lib.hid ⟨_, _, _, R7.out⟩⟩, ?_⟩
                simp [intOf]; omega
    · have hex : (¬ (j : Int) < ops.length) ∨ ((j : Int) < ops.length ∧ ¬ (j : Int) < 40) := by omega
      rcases hex with hex | ⟨hex, hex2⟩
      all_goals
        clear hlt
        go_wp2_with fail
        go_ret
        exact ⟨(by first | rfl | trivial), H1.out.gr⟩
end Go.Proofs.Ytdopmcepfacdlaa
