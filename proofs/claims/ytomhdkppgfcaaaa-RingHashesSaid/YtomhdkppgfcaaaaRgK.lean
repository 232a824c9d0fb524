/- The ring: RingHashes. -/
import Derived.Test.YtomhdkppgfcaaaaRgJ
namespace Go.Proofs.Ytomhdkppgfcaaaa
open Go.RowKit

set_option maxHeartbeats 1000000 in
theorem hashes_law (s : ByteArray) (w : World) : Calls Try.prog 3 #[.string s] w fun e w' => e = .returned (.bool true) ∧ Gr w w' := by
  have hsh := fun W => short_calls s 300 (by decide) W
  go_enter Try.func3, Try.ntmps3
  go_wp2_with fail
  refine (awake_calls _).mono ?_
  rintro e w1 ⟨rfl, hb⟩
  go_wp2_with fail
  refine (hsh _).mono ?_
  rintro e w2 ⟨s', rfl, hs', rfl⟩
  go_wp2_with (first | (go_at_call 10; refine (hash_calls s' (by omega) _).mono ?_; rintro e w' ⟨rfl, rfl⟩) | (go_at_call 11; refine (rhash_calls s' (by omega) _).mono ?_; rintro e w' ⟨rfl, rfl⟩))
  go_ret
  exact ⟨rfl, hb⟩
end Go.Proofs.Ytomhdkppgfcaaaa
