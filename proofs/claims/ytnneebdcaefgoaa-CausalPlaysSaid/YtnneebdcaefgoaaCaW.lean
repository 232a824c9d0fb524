/- The buffer: lookups; first, over a buffer as it lies. -/
import Derived.Test.YtnneebdcaefgoaaCaR
namespace Go.Proofs.Ytnneebdcaefgoaa
open Go.RowKit Go.Maps

def noRec : Rec := ⟨0, ⟨#[]⟩, 0, 0, 0, 0, 0, 0, []⟩
theorem recZ_eq : recZ = recV noRec (.slice none 0 0) := rfl
/-- What is looked up of a buffer: a record, and whether it is held. -/
def Looked (X : Nat → Prop) (w : World) (B : Buf) (s q : Int) (r : Rec) (d : Value) (is : Bool) : Prop :=
  d.oneCell' = true ∧ is = (B.f s q).isSome ∧ (is = true → B.f s q = some r) ∧ (is = false → r = noRec ∧ d = .slice none 0 0) ∧ rdX X w d r.d
theorem rdX_nil {X : Nat → Prop} {w : World} : rdX X w (.slice none 0 0) ([] : List Int) := ⟨⟨rfl, none, 0, rfl, Nat.le_refl _, fun h => absurd h (by decide)⟩, fun a n c e h0 => absurd h0 (by decide)⟩
theorem rdX_one {X : Nat → Prop} {w : World} {d : Value} {l : List Int} (h : rdX X w d l) : d.oneCell' = true := by
  obtain ⟨⟨_, a, c, rfl, _⟩, _⟩ := h; rfl
theorem look_rec {X : Nat → Prop} {w : World} {p : Nat} {mb : Option Nat} {B : Buf} (h : BufX X w p mb B) {s q : Int} (hs : I64 s) (hq : I64 q) :
    ∃ r d is, Looked X w B s q r d is ∧ ∀ W, Gr w W → (Instr.lookup 54 (.map mb) (.agg #[.int .i64 s, .int .i64 q]) true).run Try.prog W = .ok (.tuple #[recV r d, .bool is]) W := by
  obtain ⟨_, _, ov, fv, _, _, h5, h6⟩ := h
  have hl : ∀ W, Gr w W → _ := fun W hg => (h5.gr hg).look hs hq
  unfold kv at hl
  obtain ⟨h1, h2⟩ := h6 s q
  cases hf : B.f s q with
  | none =>
    rw [h1 hf] at hl
    refine ⟨noRec, .slice none 0 0, false, ⟨rfl, by rw [hf]; rfl, fun e => (by cases e), fun _ => ⟨rfl, rfl⟩, rdX_nil⟩, fun W hg => ?_⟩
    rw [hl W hg]; rfl
  | some r =>
    obtain ⟨d, e1, e2⟩ := h2 r hf
    rw [e1] at hl
    refine ⟨r, d, true, ⟨rdX_one e2, by rw [hf]; rfl, fun _ => hf, fun e => (by cases e), e2⟩, fun W hg => ?_⟩
    rw [hl W hg]; rfl
def topI : Int := 1099511627776
theorem first_calls {X : Nat → Prop} (w : World) (p : Nat) (mb : Option Nat) (B : Buf) (h : BufX X w p mb B) (ho : B.out.length ≤ 1000000) (site : Int) (hs : I64 site) :
    ∃ r d is, Looked X w B site (atV B.out site + 1) r d is ∧ ∀ W, Gr w W → Calls Try.prog 38 #[.pointer (some ⟨p, 0, none⟩), .int .i64 site] W fun e w' => e = .returned (.tuple #[recV r d, .bool is]) ∧ Gr W w' := by
  have hann := atV_nn B.out site
  obtain ⟨r, d, is, hL, hl⟩ := look_rec h hs (q := atV B.out site + 1) (by unfold I64; unfold topN at hann; omega)
  obtain ⟨ov, _, c1, c2, hr⟩ := bcells h
  exact ⟨r, d, is, hL, fun W hg => first_run W p mb ov B.out site (keepc hg c1) (keepc hg c2) (hr.1.gr hg) ho r d hL.1 is (fun W' hg' => hl W' (hg.tr hg'))⟩
end Go.Proofs.Ytnneebdcaefgoaa
