/- A folder's plain law: what holds of it whatever is called. -/
import Derived.Test.YtdopmcepfacdlaaFdQ
namespace Go.Proofs.Ytdopmcepfacdlaa

structure Fd.Ok (F : Fd) : Prop where
  room : 0 ≤ F.room ∧ F.room ≤ 1099511627776
  steps : 0 ≤ F.steps ∧ F.steps ≤ 9223372036854775807
  up : F.on = true → F.up = true
  now : F.now = runs F.firm F.since
  can : Can F.firm F.since
  rise : Rise F.firm
  len : ∀ i, i ≤ F.since.length → (runs F.firm (F.since.take i)).length ≤ 64
  sz : ∀ n, F.has n → 0 ≤ (F.fl n).sy ∧ (F.fl n).sy ≤ (F.fl n).b.size ∧ (F.fl n).b.size ≤ 1099511627776
section
variable {F : Fd}
theorem Fd.Ok.st (h : F.Ok) : I64 F.steps := by have := h.steps; unfold I64; omega
theorem Fd.Ok.nlen (h : F.Ok) : F.now.length ≤ 64 := by have := h.len F.since.length (Nat.le_refl _); rwa [List.take_length, ← h.now] at this
theorem Fd.Ok.nrise (h : F.Ok) : Rise F.now := by rw [h.now]; exact runs_rise _ h.rise
theorem Fd.Ok.nsz (h : F.Ok) : ∀ x ∈ F.now, (F.fl x.2).b.size ≤ 1099511627776 := fun x hx => (h.sz x.2 (.inl ⟨x.1, hx⟩)).2.2
theorem newF_ok (n : Int) : (newF n).Ok := by
  refine ⟨?_, (show (0 : Int) ≤ 0 ∧ (0 : Int) ≤ 9223372036854775807 from ⟨by decide, by decide⟩), fun _ => rfl, rfl, trivial, List.Pairwise.nil, fun i hi => ?_, fun m hm => (newF_has hm).elim⟩
  · show 0 ≤ roomF n ∧ roomF n ≤ _
    unfold roomF mn mx; split <;> (try split) <;> omega
  · show (runs [] (List.take i [])).length ≤ 64
    rw [List.take_nil]; exact Nat.zero_le _
theorem Fd.Ok.step (h : F.Ok) : (stepF F).Ok := by
  obtain ⟨q1, q2, q3, q4, q5, q6⟩ := stepF_parts F
  have hs : 0 ≤ (stepF F).steps ∧ (stepF F).steps ≤ 9223372036854775807 := by
    have := h.steps
    unfold stepF
    split
    · exact this
    · split
      · show 0 ≤ F.steps - 1 ∧ F.steps - 1 ≤ _; omega
      · exact this
  have hon : (stepF F).on = true → F.on = true := by
    unfold stepF
    split
    · exact id
    · split
      · exact id
      · intro z; cases z
  exact ⟨by rw [q6]; exact h.room, hs, fun z => by rw [q5]; exact h.up (hon z), by rw [q1, q2, q3]; exact h.now, by rw [q2, q3]; exact h.can, by rw [q2]; exact h.rise, by rw [q2, q3]; exact h.len, fun n hn => by
    rw [q4]
    refine h.sz n ?_
    unfold Fd.has at hn ⊢; rw [q1, q2, q3] at hn; exact hn⟩
theorem Fd.Ok.hap {o : FOp} (h : F.Ok) (hc : o.can F.now) (hl : (o.run F.now).length ≤ 64) (hz : ∀ s n, o = .cre s n → 0 ≤ (F.fl n).sy ∧ (F.fl n).sy ≤ (F.fl n).b.size ∧ (F.fl n).b.size ≤ 1099511627776) : (hapF F o).Ok := by
  obtain ⟨q1, q2, q3, q4, q5, q6⟩ := stepF_parts F
  have hst := h.step
  have e1 : (hapF F o).since = F.since ++ [o] := rfl
  have e2 : (hapF F o).firm = F.firm := q2
  have e3 : (hapF F o).now = o.run F.now := rfl
  refine ⟨hst.room, hst.steps, hst.up, ?_, ?_, ?_, ?_, fun n hn => ?_⟩
  · rw [e1, e2, e3, runs_snoc, ← h.now]
  · rw [e1, e2]; exact h.can.snoc (by rw [← h.now]; exact hc)
  · rw [e2]; exact h.rise
  · rw [e1, e2]
    intro i hi
    by_cases hle : i ≤ F.since.length
    · rw [List.take_append_of_le_length hle]; exact h.len i hle
    · have : i = F.since.length + 1 := by simp at hi; omega
      subst this
      rw [List.take_of_length_le (by simp), runs_snoc, ← h.now]; exact hl
  · have e4 : (hapF F o).fl = F.fl := q4
    rw [e4]
    rcases hap_has hn with hn | ⟨s, e⟩
    · exact h.sz n hn
    · exact hz s n e
theorem Fd.Ok.flx (h : F.Ok) (fl' : Nat → Fl) (hz : ∀ m, F.has m → 0 ≤ (fl' m).sy ∧ (fl' m).sy ≤ (fl' m).b.size ∧ (fl' m).b.size ≤ 1099511627776) : ({ F with fl := fl' } : Fd).Ok :=
  ⟨h.room, h.steps, h.up, h.now, h.can, h.rise, h.len, hz⟩
theorem Fd.Ok.create (h : F.Ok) {s : ByteArray} {n : Nat} (hk : okC F s) (hn : ¬ F.has n) : (createF F s n).Ok := by
  have hne : ∀ m, F.has m → updF F.fl n ⟨⟨#[]⟩, 0⟩ m = F.fl m := fun m hm => if_neg (fun e => hn (by rw [← e]; exact hm))
  have h1 := h.flx (updF F.fl n ⟨⟨#[]⟩, 0⟩) (fun m hm => by rw [hne m hm]; exact h.sz m hm)
  refine h1.hap trivial ?_ (fun s' n' e => ?_)
  · show (insD F.now s n).length ≤ 64
    rw [len_ins _ h.nrise, hk.2.1]; have := hk.2.2; simp; omega
  · injection e with e1 e2
    subst e2
    have : updF F.fl n ⟨⟨#[]⟩, 0⟩ n = ⟨⟨#[]⟩, 0⟩ := if_pos rfl
    show 0 ≤ (updF F.fl n ⟨⟨#[]⟩, 0⟩ n).sy ∧ (updF F.fl n ⟨⟨#[]⟩, 0⟩ n).sy ≤ ((updF F.fl n ⟨⟨#[]⟩, 0⟩ n).b.size : Int) ∧ (updF F.fl n ⟨⟨#[]⟩, 0⟩ n).b.size ≤ 1099511627776
    rw [this]; exact ⟨by decide, by decide, by decide⟩
theorem Fd.Ok.delete (h : F.Ok) (s : ByteArray) : (deleteF F s).Ok := by
  unfold deleteF
  split
  · exact h.hap trivial (Nat.le_trans (List.length_filter_le _ _) h.nlen) (fun s' n' e => by cases e)
  · exact h
theorem Fd.Ok.rename (h : F.Ok) (s t : ByteArray) : (renameF F s t).Ok := by
  unfold renameF
  split
  · rename_i hk
    have hl := (get_zero hk.2).2.2
    refine h.hap hl ?_ (fun s' n' e => by cases e)
    obtain ⟨n, hn⟩ := Option.isSome_iff_exists.1 hl
    show (match look F.now s with | some n => insD (delD F.now s) t n | none => F.now).length ≤ 64
    rw [hn]
    show (insD (delD F.now s) t n).length ≤ 64
    rw [len_ins _ (rise_del h.nrise s), len_del _ h.nrise, hn]
    have := h.nlen
    have hpos : 0 < F.now.length := List.length_pos_of_mem (look_mem hn)
    simp
    split <;> omega
  · exact h
theorem fl_upd {n : Nat} {x : Fl} (h : F.Ok) (hx : 0 ≤ x.sy ∧ x.sy ≤ x.b.size ∧ x.b.size ≤ 1099511627776) : ({ F with fl := updF F.fl n x } : Fd).Ok :=
  h.flx _ (fun m hm => by
    unfold updF
    by_cases e : m = n
    · rw [if_pos e]; exact hx
    · rw [if_neg e]; exact h.sz m hm)
theorem Fd.Ok.sync (h : F.Ok) (s : ByteArray) : (syncF F s).Ok := by
  unfold syncF
  split
  · rename_i n hn
    have hz := h.sz n (getV_has hn)
    split
    · have h1 := h.step
      have q4 := (stepF_parts F).2.2.2.1
      rw [← q4]
      refine fl_upd h1 ⟨Int.natCast_nonneg _, Int.le_refl _, ?_⟩
      rw [q4]; exact hz.2.2
    · exact h.step
  · exact h
theorem sizes_mem {fl : Nat → Fl} {l : Dir} {x : ByteArray × Nat} (h : x ∈ l) : (fl x.2).b.size ≤ sizes fl l := by
  unfold sizes
  induction l with
  | nil => cases h
  | cons y r ih =>
    simp only [List.map_cons, List.sum_cons]
    rcases List.mem_cons.1 h with rfl | h
    · omega
    · have := ih h; omega
theorem Fd.Ok.app (h : F.Ok) (s t : ByteArray) : (appF F s t).Ok := by
  unfold appF
  split
  · rename_i n hn
    split
    · exact h
    · rename_i hr
      have hz := h.sz n (getV_has hn)
      have h1 := h.step
      have q4 := (stepF_parts F).2.2.2.1
      have hm : (s, n) ∈ F.now := by
        unfold getV at hn
        split at hn
        · exact look_mem hn
        · cases hn
      have hu : (F.fl n).b.size ≤ usedF F := sizes_mem (fl := F.fl) hm
      have hroom := h.room
      rw [← q4]
      refine fl_upd h1 ?_
      rw [q4]
      show 0 ≤ (F.fl n).sy ∧ (F.fl n).sy ≤ (((F.fl n).b ++ t).size : Int) ∧ ((F.fl n).b ++ t).size ≤ 1099511627776
      rw [ByteArray.size_append]
      omega
  · exact h
theorem Fd.Ok.sdir (h : F.Ok) : (sdirF F).Ok := by
  unfold sdirF
  have h1 := h.step
  obtain ⟨q1, q2, q3, q4, q5, q6⟩ := stepF_parts F
  split
  · split
    · refine ⟨h1.room, h1.steps, h1.up, ?_, trivial, h.nrise, fun i hi => ?_, fun n hn => ?_⟩
      · show (stepF F).now = F.now; exact q1
      · show (runs F.now (List.take i [])).length ≤ 64
        rw [List.take_nil]; exact h.nlen
      · show 0 ≤ ((stepF F).fl n).sy ∧ _
        rw [q4]
        refine h.sz n ?_
        rcases hn with ⟨s, hn⟩ | ⟨s, hn⟩ | ⟨s, hn⟩
        · exact .inl ⟨s, by rw [← q1]; exact hn⟩
        · exact .inl ⟨s, hn⟩
        · cases hn
    · exact h1
  · exact h
theorem Fd.Ok.arm (h : F.Ok) {n : Int} (hn : I64 n) : ({ F with armed := true, steps := mx n 0 } : Fd).Ok :=
  ⟨h.room, by show 0 ≤ mx n 0 ∧ mx n 0 ≤ _; unfold I64 at hn; unfold mx; split <;> omega, h.up, h.now, h.can, h.rise, h.len, h.sz⟩
theorem Fd.Ok.limit (h : F.Ok) (n : Int) : ({ F with room := roomF n } : Fd).Ok :=
  ⟨by show 0 ≤ roomF n ∧ roomF n ≤ _; unfold roomF mn mx; split <;> (try split) <;> omega, h.steps, h.up, h.now, h.can, h.rise, h.len, h.sz⟩
theorem left_has {ps : List Int} {x : ByteArray × Nat} (hx : x ∈ leftD F ps) : F.has x.2 := by
  rcases runs_ids (t := x.1) (n := x.2) hx with h | ⟨s, h⟩
  · exact .inr (.inl h)
  · exact .inr (.inr ⟨s, List.mem_of_mem_take h⟩)
theorem many_le (F : Fd) (ps : List Int) : manyF F ps ≤ F.since.length := by
  have := pk_rng (ps.headD 0) (n := (F.since.length : Int)) (by omega)
  unfold manyF; omega
theorem Fd.Ok.crash (h : F.Ok) {ps : List Int} {L : Dir} {fl : Nat → Fl} (hc : Crashed F ps L fl) : (crashF F L fl).Ok := by
  have hr : Rise (leftD F ps) := runs_rise _ h.rise
  have hrl : Rise L := by
    unfold Rise
    rw [List.pairwise_iff_getElem]
    intro i j hi hj hij
    have hi' : i < (leftD F ps).length := by rw [← hc.len]; exact hi
    have hj' : j < (leftD F ps).length := by rw [← hc.len]; exact hj
    rw [(hc.each i hi' hi).1, (hc.each j hj' hj).1]
    exact List.pairwise_iff_getElem.1 hr i j hi' hj' hij
  refine ⟨h.room, h.steps, fun _ => rfl, rfl, trivial, hrl, fun i hi => ?_, fun n hn => ?_⟩
  · show (runs L (List.take i [])).length ≤ 64
    rw [List.take_nil]
    show L.length ≤ 64
    rw [hc.len]; exact h.len _ (many_le F ps)
  · have hn' : ∃ s, (s, n) ∈ L := by
      rcases hn with h | h | ⟨s, h⟩
      · exact h
      · exact h
      · cases h
    obtain ⟨s, hs⟩ := hn'
    obtain ⟨i, hi, ei⟩ := List.getElem_of_mem hs
    have hi' : i < (leftD F ps).length := by rw [← hc.len]; exact hi
    have e := (hc.each i hi' hi).2
    rw [ei] at e
    have hz := h.sz _ (left_has (List.getElem_mem hi'))
    show 0 ≤ (fl n).sy ∧ (fl n).sy ≤ ((fl n).b.size : Int) ∧ (fl n).b.size ≤ _
    change fl n = _ at e
    rw [e]
    generalize F.fl (leftD F ps)[i].2 = x at *
    have hp := pk_rng (ps.getD (1 + i) 0) (n := (x.b.size : Int) - x.sy) (by omega)
    generalize pk (ps.getD (1 + i) 0) ((x.b.size : Int) - x.sy) = q at *
    show 0 ≤ x.sy + q ∧ x.sy + q ≤ ((x.b.extract 0 (x.sy + q).toNat).size : Int) ∧ (x.b.extract 0 (x.sy + q).toNat).size ≤ _
    rw [ByteArray.size_extract]
    omega
end
end Go.Proofs.Ytdopmcepfacdlaa
