/- Package files: Used. -/
import Derived.Test.YtdopmcepfacdlaaFdH
namespace Go.Proofs.Ytdopmcepfacdlaa
open Go.RowKit Go.Maps
attribute [local go_sem] max2_mx min2_mn max_two' min_two'

def sizes (fl : Nat → Fl) (l : Dir) : Nat := (l.map fun x => (fl x.2).b.size).sum
def usedF (F : Fd) : Nat := sizes F.fl F.now
theorem sizes_le {fl : Nat → Fl} {l : Dir} {m : Nat} (h : ∀ x ∈ l, (fl x.2).b.size ≤ m) : sizes fl l ≤ l.length * m := by
  unfold sizes
  induction l with
  | nil => simp
  | cons x r ih =>
    have h1 := h x (List.mem_cons_self ..)
    have h2 := ih (fun y hy => h y (List.mem_cons_of_mem _ hy))
    simp only [List.map_cons, List.sum_cons, List.length_cons, Nat.add_mul]
    omega
theorem sizes_perm {fl : Nat → Fl} {l l' : Dir} (h : l.Perm l') : sizes fl l = sizes fl l' := (h.map _).sum_nat
theorem sizes_snoc (fl : Nat → Fl) (l : Dir) (x : ByteArray × Nat) : sizes fl (l ++ [x]) = sizes fl l + (fl x.2).b.size := by simp [sizes]
/-- What a range over names has met. -/
structure Met (l : Dir) (left : Lit → Bool) (d : Dir) : Prop where
  nd : d.Pairwise fun a b => a.1 ≠ b.1
  mem : ∀ x, x ∈ d ↔ x ∈ l ∧ left (.string (bl x.1)) = false
theorem Met.done {l d : Dir} {left : Lit → Bool} (h : Met l left d) (hr : Rise l) (h0 : ∀ kl, left kl = false) : d.Perm l := by
  refine (List.perm_ext_iff_of_nodup (h.nd.imp fun {a b} h e => h (by rw [e])) (hr.imp fun {a b} h e => by rw [e] at h; exact List.lt_irrefl _ h)).2 fun x => ?_
  rw [h.mem]
  exact ⟨fun z => z.1, fun z => ⟨z, h0 _⟩⟩
theorem Met.step {l d : Dir} {left : Lit → Bool} (h : Met l left d) {s : ByteArray} {n : Nat} (hr : Rise l) (hm : (s, n) ∈ l) (hl : left (.string (bl s)) = true) : Met l (fun z => left z && !z.sameKey (.string (bl s))) (d ++ [(s, n)]) := by
  have hk : ∀ t : ByteArray, (Lit.string (bl t)).sameKey (.string (bl s)) = true ↔ t = s := fun t => by
    constructor
    · intro e; have := WideAt.sameKey_eq e; injection this with this; exact bl_inj this
    · rintro rfl; exact WideAt.sameKey_self trivial
  constructor
  · rw [List.pairwise_append]
    refine ⟨h.nd, List.pairwise_singleton _ _, fun a ha b hb e => ?_⟩
    rw [List.mem_singleton] at hb
    subst hb
    have := ((h.mem a).1 ha).2
    rw [e] at this
    change left (.string (bl s)) = false at this
    rw [hl] at this; cases this
  · intro x
    rw [List.mem_append, List.mem_singleton, h.mem]
    constructor
    · rintro (⟨h1, h2⟩ | rfl)
      · exact ⟨h1, by show (left _ && !_) = false; rw [h2]; rfl⟩
      · exact ⟨hm, by show (left _ && !_) = false; rw [(hk s).2 rfl]; simp⟩
    · rintro ⟨h1, h2⟩
      by_cases e : x.1 = s
      · right
        have e1 := look_of hr (show (x.1, x.2) ∈ l from h1)
        rw [e, look_of hr hm] at e1
        injection e1 with e1
        exact Prod.ext e e1.symm
      · left
        refine ⟨h1, ?_⟩
        have e2 : (Lit.string (bl x.1)).sameKey (.string (bl s)) = false := by
          cases e3 : (Lit.string (bl x.1)).sameKey (.string (bl s)) with
          | false => rfl
          | true => exact absurd ((hk x.1).1 e3) e
        change (left (.string (bl x.1)) && !(Lit.string (bl x.1)).sameKey (.string (bl s))) = false at h2
        rw [e2] at h2
        simpa using h2
set_option maxRecDepth 100000 in
set_option maxHeartbeats 4000000 in
theorem used_calls (X : Nat → Prop) (w : World) (p : Nat) (F : Fd) (h : FdAt X w p F) (hup : F.up = true) (hlen : F.now.length ≤ 64) (hsz : ∀ x ∈ F.now, (F.fl x.2).b.size ≤ 1099511627776) :
    Calls Try.prog 19 #[.pointer (some ⟨p, 0, none⟩)] w fun e w' => e = .returned (.int .i64 (usedF F)) ∧ Gr w w' := by
  obtain ⟨nb, fb, sv, h1, h2, _, _, _, _, _, h3⟩ := h.blk
  obtain ⟨c0, _⟩ := fd_cells h1
  have hr := h2.1
  obtain ⟨b, rfl⟩ := nb_some (h3 hup)
  obtain ⟨_, _, ⟨e, _⟩ | ⟨b', D, e, hown, hdz, hat⟩⟩ := id h2
  · cases e
  cases e
  have HFl := Lib.hid (fun n (hn : ∃ s, (s, n) ∈ F.now) => (h.files n (.inl hn)).2)
  have H20 := Lib.hid h2.2.1; have HR := Lib.hid hr; have HSz := Lib.hid hsz; have Hown := Lib.hid hown; have Hat := Lib.hid hat; have Hdz := Lib.hid hdz
  have hu : usedF F = sizes F.fl F.now := rfl
  rw [hu]
  obtain ⟨T, hT⟩ : ∃ T, sizes F.fl F.now = T := ⟨_, rfl⟩
  rw [hT]
  have HT := Lib.hid hT
  clear h h1 h2 h3 hup hr hsz hown hat hdz hu hT
  go_enter Try.func19, Try.ntmps19
  go_wp2_with (first | (at_range; refine wpList_range_own _ rfl _ 61 rfl 9 67 lawS Try.underlying61 heldR b F.now.length D rfl Hown.out ?_; intro w1 hrg1 hg1 hs1))
  go_frame
  have HG1 : Gr w w1 := ⟨hg1.os, hg1.tape, hg1.output, hg1.size, fun k hk => hg1.block k hk (by simp)⟩
  obtain ⟨R, eR⟩ : ∃ R, w.heap.size = R := ⟨_, rfl⟩
  rw [eR] at hrg1 hs1 ⊢
  go_loopw [3] (fun u wr => ∃ (d : Dir) (left : Lit → Bool) (cnt : Nat), wr.ranges Try.prog 9 heldR b R F.now.length D left cnt ∧ (∀ kl, left kl = true → Maps.has D kl = true) ∧ Hid (Met F.now left d) ∧ d.length + cnt ≤ F.now.length ∧ u = .int .i64 (sizes F.fl d : Nat) ∧ Gr w wr) (fun _ wr => wr.rangeLeft b R)
  case atStart =>
    refine ⟨[], Maps.has D, Maps.size D, hrg1, fun _ h => h, Lib.hid ⟨List.Pairwise.nil, fun x => ⟨(fun h => by cases h), fun h => ?_⟩⟩, by rw [Hdz.out]; simp, rfl, HG1⟩
    have h20 := (Hat.out x.1 (by have := H20.out x h.1; unfold maxLen; omega)).1
    rw [h.2, look_of HR.out (show (x.1, x.2) ∈ F.now from h.1)] at h20
    cases h20
  case round =>
    obtain ⟨d, left, cnt, hrg, hleft, hM, hld, rfl, hg⟩ := hrel
    have hmem : ∀ x ∈ d, (F.fl x.2).b.size ≤ 1099511627776 := fun x hx => HSz.out x ((hM.out.mem x).1 hx).1
    have hsd := sizes_le hmem
    have hsd2 : sizes F.fl d ≤ 64 * 1099511627776 := Nat.le_trans hsd (Nat.mul_le_mul_right _ (by omega))
    have Hleft := Lib.hid hleft; have Hrg := Lib.hid hrg
    clear hmem hsd hleft
    go_wp2_with (at_next; refine wpList_next_ranges _ rfl _ rfl 9 lawS heldR (fun x : List UInt8 => Go.Proofs.encStr x) (fun c : Value => c) (fun key kl hk => by obtain ⟨x, e, _⟩ := keyOf_str Try.underlying9 hk; exact ⟨x, e⟩) (fun v y _ => ⟨v, rfl⟩) b R F.now.length D left cnt rfl hrg ?_ ?_)
    · intro hc0 hl0
      have hT : sizes F.fl d = T := by rw [← HT.out]; exact sizes_perm (hM.out.done HR.out hl0)
      have HT2 := Lib.hid hT
      clear hT hl0 hrg
      go_wp2_with fail
      go_ret
      exact ⟨ret_i rfl (by rw [HT2.out]), hg⟩
    · intro x c kl y ps w2 cnt2 hkey hlx hy hat hrg2 hlt hg2 hs2 hen
      obtain ⟨x1, ex, rfl, hxl⟩ := keyOf_str Try.underlying9 hkey
      obtain rfl := encStr_inj ex
      obtain ⟨s, hs⟩ : ∃ s : ByteArray, bl s = x := ⟨⟨x.toArray⟩, by simp [bl]⟩
      have hsl : s.size ≤ maxLen := by rw [← hs] at hxl; simpa [bl] using hxl
      obtain ⟨a1, a2⟩ := Hat.out s hsl
      rw [hs] at a1 a2
      rw [Hleft.out _ hlx] at a1
      obtain ⟨n, hn⟩ := Option.isSome_iff_exists.1 a1.symm
      rw [hn, hat] at a2
      simp only [heldR, Option.some.injEq, Prod.mk.injEq] at hy
      rw [← hy.1] at a2
      injection a2 with a2
      subst a2
      have hmn := look_mem hn
      have hstep := hM.out.step HR.out hmn (by rw [hs]; exact hlx)
      have HG2 : Gr w w2 := gr_gb hg hg2 (fun j hj => by injection hj with hj; omega)
      have c0 := (cell_of_row w2 n 0 _ _ _ (HG2.blk (HFl.out n ⟨s, hmn⟩))).trans rfl
      have hfs := HSz.out _ hmn
      have hsn := sizes_snoc F.fl d (s, n)
      have hl2 : ∀ kl, (left kl && !kl.sameKey (.string (bl s))) = true → Maps.has D kl = true := fun kl hk => Hleft.out kl (by simp at hk; exact hk.1)
      rw [← hs] at hrg2
      have HSn := Lib.hid hsn; have HSt := Lib.hid hstep; have HL2 := Lib.hid hl2; have HR2 := Lib.hid hrg2; have HGG := Lib.hid HG2
      change (F.fl n).b.size ≤ 1099511627776 at hfs
      rw [ptr_some] at hen ⊢
      unfold adr at hen ⊢
      clear hsn hstep hl2 hrg2 HG2 hrg hy hat hn hmn a1 hkey hlx hg2 hs2 hs hM hxl hsl
      generalize hz9 : sizes F.fl d = sd at *
      go_wp2_with fail
      go_roundw
      case rel => exact ⟨d ++ [(s, n)], _, cnt2, HR2.out, HL2.out, HSt, by simp; omega, by rw [HSn.out]; show _ = Value.int .i64 ((sd + (F.fl n).b.size : Nat) : Int); go_num, HGG.out⟩
      case measure => rw [HR2.out.left_eq, Hrg.out.left_eq]; exact hlt
end Go.Proofs.Ytdopmcepfacdlaa
