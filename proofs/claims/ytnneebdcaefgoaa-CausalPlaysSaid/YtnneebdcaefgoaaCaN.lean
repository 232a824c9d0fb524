/- The map of a buffer: look, len, store, delete. -/
import Derived.Test.YtnneebdcaefgoaaCaM
namespace Go.Proofs.Ytnneebdcaefgoaa
open Go.RowKit Go.Maps

/-- How an element is read: as itself. -/
def heldR (v : Value) : Option (DataW Value × List MemPlace) := some (.held v, [])
def recZ : Value := .agg #[.int .i64 0, .string ⟨#[]⟩, .int .i64 0, .int .i64 0, .int .i64 0, .int .i64 0, .int .i64 0, .int .i64 0, .slice none 0 0]
theorem zeroRec (w : World) : (zeroValue 33).run Try.prog w = .ok recZ w := by kernel_rfl
theorem keyL_inj {s q s' q' : Int} (h1 : I64 s) (h2 : I64 q) (h3 : I64 s') (h4 : I64 q') (h : keyL s q = keyL s' q') : s = s' ∧ q = q' := by
  have a := hkeyL h1 h2
  have b := hkeyL h3 h4
  rw [h] at a
  have := lawK.inj a b
  simp only [kv, Value.agg.injEq, Array.mk.injEq, List.cons.injEq, Value.int.injEq] at this
  simp at this
  exact this
/-- m is the map that holds f's values, n of them; b: its block, if it has one. -/
def MapIs (w : World) (mb : Option Nat) (f : Int → Int → Option Value) (n : Nat) : Prop :=
  (mb = none ∧ n = 0 ∧ ∀ s q, f s q = none) ∨
  ∃ b D, mb = some b ∧ w.ownsMap Try.prog 67 heldR b n D ∧ Maps.size D = n ∧
    ∀ s q, I64 s → I64 q → Maps.has D (keyL s q) = (f s q).isSome ∧ D.atKey (keyL s q) (.held recZ) = .held ((f s q).getD recZ)
set_option maxRecDepth 100000 in
theorem MapIs.look {w : World} {mb : Option Nat} {f : Int → Int → Option Value} {n : Nat} (h : MapIs w mb f n) {s q : Int} (h1 : I64 s) (h2 : I64 q) :
    (Instr.lookup 54 (.map mb) (kv s q) true).run Try.prog w = .ok (.tuple #[(f s q).getD recZ, .bool (f s q).isSome]) w := by
  rcases h with ⟨rfl, _, hf⟩ | ⟨b, D, rfl, hown, _, hat⟩
  · rw [Maps.look_nil true lawK Try.underlying54 (zeroRec w) (hkeyL h1 h2), hf]; rfl
  · obtain ⟨v, ps, hrun, hv⟩ := hown.look_ok lawK Try.underlying54 (zeroRec w) (zd := .held recZ) (zp := []) rfl (hkeyL h1 h2)
    obtain ⟨e1, e2⟩ := hat s q h1 h2
    rw [e2] at hv
    simp only [heldR, Option.some.injEq, Prod.mk.injEq, DataW.held.injEq] at hv
    rw [hrun, e1, hv.1]
theorem MapIs.len {w : World} {mb : Option Nat} {f : Int → Int → Option Value} {n : Nat} (h : MapIs w mb f n) (ty : TypeId) :
    (Builtin.len_ #[54] ty #[.map mb]).run Try.prog w = .ok (.int .i64 n) w := by
  rcases h with ⟨rfl, rfl, _⟩ | ⟨b, D, rfl, hown, hs, _⟩
  · exact Maps.len_nil Try.underlying54 ty
  · rw [hown.len Try.underlying54 ty, hs]
def setM (f : Int → Int → Option Value) (s q : Int) (x : Option Value) (s' q' : Int) : Option Value := if s' = s ∧ q' = q then x else f s' q'
theorem MapIs.made (w : World) : MapIs (w.alloc (.map #[] 0)) (some w.heap.size) (fun _ _ => none) 0 :=
  .inr ⟨w.heap.size, .map [], rfl, World.ownsMap_made _ _ _ _, rfl, fun _ _ _ _ => ⟨rfl, rfl⟩⟩
theorem MapIs.kept {w w' : World} {mb : Option Nat} {f : Int → Int → Option Value} {n : Nat} (h : MapIs w mb f n) {row : Option Nat} (hg : w.grownBy w' row) (hne : ∀ b, mb = some b → some b ≠ row) : MapIs w' mb f n := by
  rcases h with h | ⟨b, D, e, hown, hr⟩
  · exact .inl h
  · exact .inr ⟨b, D, e, hown.kept hg (hne b e), hr⟩
theorem MapIs.store {w : World} {b : Nat} {f : Int → Int → Option Value} {n : Nat} (h : MapIs w (some b) f n) (hn : n < maxLen) {s q : Int} (h1 : I64 s) (h2 : I64 q) (v : Value) (hnew : f s q = none) :
    ∃ w', (Instr.mapUpdate 54 (.map (some b)) (kv s q) v).run Try.prog w = .ok () w' ∧ MapIs w' (some b) (setM f s q (some v)) (n + 1) ∧ w.grownBy w' (some b) := by
  rcases h with ⟨e, _⟩ | ⟨b', D, e, hown, hs, hat⟩
  · cases e
  · cases e
    obtain ⟨w', hrun, hown', ht⟩ := hown.store lawK Try.underlying54 hn (hkeyL h1 h2) (val := v) (d := .held v) (ps := []) rfl
    have hk := lawK.key (hkeyL h1 h2)
    have hm := hown.isMap
    have h0 : Maps.has D (keyL s q) = false := by rw [(hat s q h1 h2).1, hnew]; rfl
    refine ⟨w', hrun, .inr ⟨b, _, rfl, hown', ?_, fun s' q' h3 h4 => ?_⟩, ht.grown⟩
    · rw [size_put (hown.tidy lawK), h0, hs]; rfl
    · unfold setM
      by_cases e : s' = s ∧ q' = q
      · obtain ⟨rfl, rfl⟩ := e
        rw [if_pos ⟨rfl, rfl⟩]
        exact ⟨has_put_same hm hk _, atKey_put_same hm hk _ _⟩
      · rw [if_neg e]
        have hne : keyL s' q' ≠ keyL s q := fun he => e (keyL_inj h3 h4 h1 h2 he)
        rw [has_put_other hne, atKey_put_other hne]
        exact hat s' q' h3 h4
theorem MapIs.drop {w : World} {b : Nat} {f : Int → Int → Option Value} {n : Nat} (h : MapIs w (some b) f (n + 1)) {s q : Int} (h1 : I64 s) (h2 : I64 q) (hthere : (f s q).isSome = true) (ty : TypeId) :
    ∃ w', (Builtin.delete_ #[54, 67] ty #[.map (some b), kv s q]).run Try.prog w = .ok (.tuple #[]) w' ∧ MapIs w' (some b) (setM f s q none) n ∧ w.grownBy w' (some b) := by
  rcases h with ⟨e, _⟩ | ⟨b', D, e, hown, hs, hat⟩
  · cases e
  · cases e
    obtain ⟨w', hrun, hown', ht⟩ := hown.drop lawK Try.underlying54 (hkeyL h1 h2) ty
    have h0 : Maps.has D (keyL s q) = true := by rw [(hat s q h1 h2).1, hthere]
    have hsz : Maps.size (D.del (keyL s q)) = n := by
      have := size_del (k := keyL s q) (hown.tidy lawK)
      rw [h0, hs] at this
      simpa using this
    refine ⟨w', hrun, .inr ⟨b, _, rfl, ?_, hsz, fun s' q' h3 h4 => ?_⟩, ht.grown⟩
    · obtain ⟨es, clock, e1, e2, e3, e4⟩ := hown'
      refine ⟨es, clock, e1, e2, ?_, e4⟩
      have : Maps.size (D.del (keyL s q)) = es.size := by rw [e4]; simp [Maps.size, length_sorted]
      omega
    · unfold setM
      by_cases e : s' = s ∧ q' = q
      · obtain ⟨rfl, rfl⟩ := e
        rw [if_pos ⟨rfl, rfl⟩]
        exact ⟨has_del_same, atKey_del_same _⟩
      · rw [if_neg e]
        have hne : keyL s' q' ≠ keyL s q := fun he => e (keyL_inj h3 h4 h1 h2 he)
        rw [has_del_other hne, atKey_del_other hne]
        exact hat s' q' h3 h4
end Go.Proofs.Ytnneebdcaefgoaa
