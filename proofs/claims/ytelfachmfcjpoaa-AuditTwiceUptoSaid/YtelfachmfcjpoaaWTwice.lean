/- AuditTwice: from the row's own words to the walk. -/
import Derived.Test.YtelfachmfcjpoaaTp
import Derived.Test.YtelfachmfcjpoaaWPace
namespace Go.Proofs.Ytelfachmfcjpoaa.PA
open Go.RowKit Go.Proofs.YtelfachmfcjpoaaW.PrintWords Go.Proofs.YtelfachmfcjpoaaW.PrintLast Go.Proofs.YtelfachmfcjpoaaW.PrintMore

theorem walkAuditTwice (W : World) (a : Option Addr) (cap : Nat) (l : List S32) (hC : k32.C W a l.length l) (hc : l.length ≤ cap) (hb : l.length + 1 ≤ 1048576) (_hok : ∀ x ∈ l, okRow x) (c : Int) (hc64 : -9223372036854775808 ≤ c ∧ c ≤ 9223372036854775807) :
    Calls Try.prog 4 #[.slice a l.length cap, .int .i64 c] W fun e W' => e = .returned (.bool true) ∧ Below W.heap.size W W' := by
  obtain ⟨k, hk⟩ := twice_pure l c (by omega) hc64
  exact coraclelaw24_AuditTwice.calls k a cap l c true W hC hc hk
end Go.Proofs.Ytelfachmfcjpoaa.PA
