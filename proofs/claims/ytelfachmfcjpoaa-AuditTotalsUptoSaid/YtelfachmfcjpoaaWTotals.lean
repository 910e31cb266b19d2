/- AuditTotals: from the row's own words to the walk. -/
import Derived.Test.YtelfachmfcjpoaaTq
import Derived.Test.YtelfachmfcjpoaaWPace
namespace Go.Proofs.Ytelfachmfcjpoaa.PA
open Go.RowKit Go.Proofs.YtelfachmfcjpoaaW.PrintWords Go.Proofs.YtelfachmfcjpoaaW.PrintLast Go.Proofs.YtelfachmfcjpoaaW.PrintMore

theorem walkAuditTotals (W : World) (a : Option Addr) (cap : Nat) (l : List S32) (hC : k32.C W a l.length l) (hc : l.length ≤ cap) (hb : l.length + 1 ≤ 1048576) (hok : ∀ x ∈ l, okRow x) :
    Calls Try.prog 5 #[.slice a l.length cap] W fun e W' => e = .returned (.bool true) ∧ Below W.heap.size W W' := by
  obtain ⟨k, hk⟩ := totals_pure l (by omega) (fun x hx => (hok x hx).2.2.2.1)
  exact coraclelaw24_AuditTotals.calls k a cap l true W hC hc hk
end Go.Proofs.Ytelfachmfcjpoaa.PA
