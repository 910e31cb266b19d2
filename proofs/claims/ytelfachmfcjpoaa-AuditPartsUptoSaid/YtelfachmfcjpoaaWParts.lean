/- AuditParts: from the row's own words to the walk. -/
import Derived.Test.YtelfachmfcjpoaaPq
import Derived.Test.YtelfachmfcjpoaaWPace
namespace Go.Proofs.Ytelfachmfcjpoaa.PA
open Go.RowKit Go.Proofs.YtelfachmfcjpoaaW.PrintWords Go.Proofs.YtelfachmfcjpoaaW.PrintLast Go.Proofs.YtelfachmfcjpoaaW.PrintMore

theorem walkAuditParts (W : World) (a : Option Addr) (cap : Nat) (l : List S32) (hC : k32.C W a l.length l) (hc : l.length ≤ cap) (hb : l.length + 1 ≤ 1048576) (hok : ∀ x ∈ l, okRow x)
    (a1 : Option Addr) (cap1 : Nat) (m : List S32) (hC1 : k32.C W a1 m.length m) (hc1 : m.length ≤ cap1) (hb1 : m.length + 1 ≤ 1048576) (hok1 : ∀ x ∈ m, okRow x) :
    Calls Try.prog 6 #[.slice a l.length cap, .slice a1 m.length cap1] W fun e W' => e = .returned (.bool true) ∧ Below W.heap.size W W' := by
  obtain ⟨k, hk⟩ := parts_pure l m (by omega) (by omega) (fun x hx => (hok x hx).2.2.2.1) (fun x hx => (hok1 x hx).2.2.2.1)
  exact coraclelaw24_AuditParts.calls k a cap l a1 cap1 m true W hC hc hC1 hc1 hk
end Go.Proofs.Ytelfachmfcjpoaa.PA
