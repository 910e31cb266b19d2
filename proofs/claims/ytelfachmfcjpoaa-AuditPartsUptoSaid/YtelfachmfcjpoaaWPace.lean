/- AuditPace: from the row's own words to the walk. -/
import Derived.Test.YtelfachmfcjpoaaPc
import Derived.Test.YtelfachmfcjpoaaOp
namespace Go.Proofs.Ytelfachmfcjpoaa.PA
open Go.RowKit Go.Proofs.YtelfachmfcjpoaaW.PrintWords Go.Proofs.YtelfachmfcjpoaaW.PrintLast Go.Proofs.YtelfachmfcjpoaaW.PrintMore

def okRow (x : S32) : Prop := Ok64 x.f0 ∧ Ok64 x.f1 ∧ Ok64 x.f2 ∧ Ok64 x.f3 ∧ Ok64 x.f4
/-- the rows of the law, as they are read -/
theorem opensRow : Op.Opens Try.prog 32 k32 (fun _ => 1) okRow :=
  (Op.Opens.struct (fun x : S32 => (x.f0, x.f1, x.f2, x.f3, x.f4, x.f5)) (fun x => ⟨x.1, x.2.1, x.2.2.1, x.2.2.2.1, x.2.2.2.2.1, x.2.2.2.2.2⟩) (fun _ => rfl) Try.underlying32 (by kernel_rfl)
    (.cons rfl (by kernel_rfl) (.int Try.underlying3) rfl (by decide) (.cons rfl (by kernel_rfl) (.int Try.underlying3) rfl (by decide) (.cons rfl (by kernel_rfl) (.int Try.underlying3) rfl (by decide)
      (.cons rfl (by kernel_rfl) (.int Try.underlying3) rfl (by decide) (.cons rfl (by kernel_rfl) (.int Try.underlying3) rfl (by decide) (.one rfl (by kernel_rfl) (.bool Try.underlying4)))))))).weaken
    (fun _ => by omega) (fun _ h => ⟨Op.wf64 h.1, Op.wf64 h.2.1, Op.wf64 h.2.2.1, Op.wf64 h.2.2.2.1, Op.wf64 h.2.2.2.2.1⟩)
instance : Inhabited S32 := ⟨z32⟩
theorem opensRows : Op.Opens Try.prog 22 (Kd.slice 32 k32) (fun l => l.length + 1) (fun l => ∀ x ∈ l, okRow x) := Op.Opens.sliceLen Try.underlying22 (by kernel_rfl) opensRow

theorem walkAuditPace (W : World) (a : Option Addr) (cap : Nat) (l : List S32) (hC : k32.C W a l.length l) (hc : l.length ≤ cap) (hb : l.length + 1 ≤ 1048576) (hok : ∀ x ∈ l, okRow x) (c : Int) (hc64 : -9223372036854775808 ≤ c ∧ c ≤ 9223372036854775807) :
    Calls Try.prog 3 #[.slice a l.length cap, .int .i64 c] W fun e W' => e = .returned (.bool true) ∧ Below W.heap.size W W' :=
  auditPace_calls a cap c l W hC hc (by omega) (fun r hr => (hok r hr).2.1)
end Go.Proofs.Ytelfachmfcjpoaa.PA
