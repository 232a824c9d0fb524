/- The ring: a text's hash. -/
import Derived.Test.YtomhdkppgfcaaaaProg
import Derived.Test.YtomhdkppgfcaaaaUt
import Derived.WalkLawsBesides
import Derived.KernelRfl
import Derived.BigQuiet
import Derived.Deep.QuietTactic
import Derived.Deep.RegionHeld3
namespace Go.Proofs.Ytomhdkppgfcaaaa
open Go.RowKit

def hstep (x : Int) (b : UInt8) : Int := IntKind.u64.wrap (bits BinOp.xor IntKind.u64 x (IntKind.u64.wrap b.toNat) * 1099511628211)
def hAt (s : ByteArray) (k : Nat) : Int := (s.data.toList.take k).foldl hstep 14695981039346656037
theorem hAt_succ {s : ByteArray} {k : Nat} (h : k < s.size) : hAt s (k + 1) = IntKind.u64.wrap (bits BinOp.xor IntKind.u64 (hAt s k) (IntKind.u64.wrap (s[k]).toNat) * 1099511628211) := by
  unfold hAt
  have h' : k < s.data.toList.length := by simpa using h
  rw [List.take_succ_eq_append_getElem h', List.foldl_append]
  rfl

def hsh (h : Int) : Int := bits BinOp.xor IntKind.u64 h (h / 8589934592)
def hfin (h : Int) : Int := hsh (IntKind.u64.wrap (hsh (IntKind.u64.wrap (hsh h * 18397679294719823053)) * 14181476777654086739))
def hashS (s : ByteArray) : Int := hfin (hAt s s.size)

set_option maxHeartbeats 1000000 in
theorem hash_calls (s : ByteArray) (hs : s.size ≤ 1000000) (w : World) :
    Calls Try.prog 10 #[.string s] w fun e w' => e = .returned (.int .u64 (hashS s)) ∧ w = w' := by
  go_enter Try.func10, Try.ntmps10
  go_wp2_with fail
  go_loopw [3, 7] (fun h i wr => ∃ k : Nat, k ≤ s.size ∧ i = .int .i64 k ∧ h = .int .u64 (hAt s k) ∧ w = wr) (fun _ i _ => s.size - (intOf i).toNat)
  case atStart => exact ⟨0, Nat.zero_le _, rfl, rfl, rfl⟩
  case round =>
    obtain ⟨k, hk, rfl, rfl, rfl⟩ := hrel
    by_cases hlt : k < s.size
    · have h1 : (k : Int) < s.size := by omega
      have HS := Lib.hid (hAt_succ hlt)
      go_wp2_with fail
      go_roundw
      case rel => exact ⟨k + 1, by omega, by go_num, by rw [HS.out], trivial⟩
      case measure => simp [intOf]; omega
    · obtain rfl : k = s.size := by omega
      go_wp2_with fail
      go_ret
      exact ⟨rfl, rfl⟩
set_option maxHeartbeats 1000000 in
theorem rhash_calls (s : ByteArray) (hs : s.size ≤ 1000000) (w : World) :
    Calls Try.prog 11 #[.string s] w fun e w' => e = .returned (.int .u64 (hashS s)) ∧ w = w' := by
  go_enter Try.func11, Try.ntmps11
  go_wp2_with fail
  go_loopw [3, 4] (fun h i wr => ∃ k : Nat, k ≤ s.size ∧ i = .int .i64 k ∧ h = .int .u64 (hAt s k) ∧ w = wr) (fun _ i _ => s.size - (intOf i).toNat)
  case atStart => exact ⟨0, Nat.zero_le _, rfl, rfl, rfl⟩
  case round =>
    obtain ⟨k, hk, rfl, rfl, rfl⟩ := hrel
    by_cases hlt : k < s.size
    · have h1 : (k : Int) < s.size := by omega
      have HS := Lib.hid (hAt_succ hlt)
      go_wp2_with fail
      go_roundw
      case rel => exact ⟨k + 1, by omega, by go_num, by rw [HS.out], trivial⟩
      case measure => simp [intOf]; omega
    · obtain rfl : k = s.size := by omega
      go_wp2_with fail
      go_ret
      exact ⟨rfl, rfl⟩
end Go.Proofs.Ytomhdkppgfcaaaa
