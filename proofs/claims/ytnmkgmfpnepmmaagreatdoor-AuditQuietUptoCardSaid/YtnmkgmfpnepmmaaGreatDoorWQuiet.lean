/- AuditQuiet: from the row's own words to the walk. -/
import Derived.Test.YtnmkgmfpnepmmaaGreatDoorQn
import Derived.Test.YtnmkgmfpnepmmaaGreatDoorOp
namespace Go.Proofs.YtnmkgmfpnepmmaaGreatDoor.PA
open Go.RowKit Go.Proofs.YtnmkgmfpnepmmaaGreatDoorW.PrintWords Go.Proofs.YtnmkgmfpnepmmaaGreatDoorW.PrintLast Go.Proofs.YtnmkgmfpnepmmaaGreatDoorW.PrintMore

def okRow (x : S41) : Prop := Ok64 x.f0 ∧ Ok64 x.f1 ∧ Ok64 x.f2 ∧ Ok64 x.f3 ∧ Ok64 x.f4
/-- the rows of the law, as they are read -/
theorem opensRow : Op.Opens Tryz.prog 41 k41 (fun _ => 1) okRow :=
  (Op.Opens.struct (fun x : S41 => (x.f0, x.f1, x.f2, x.f3, x.f4, x.f5)) (fun x => ⟨x.1, x.2.1, x.2.2.1, x.2.2.2.1, x.2.2.2.2.1, x.2.2.2.2.2⟩) (fun _ => rfl) Tryz.underlying41 (by kernel_rfl)
    (.cons rfl (by kernel_rfl) (.int Tryz.underlying3) rfl (by decide) (.cons rfl (by kernel_rfl) (.int Tryz.underlying3) rfl (by decide) (.cons rfl (by kernel_rfl) (.int Tryz.underlying3) rfl (by decide)
      (.cons rfl (by kernel_rfl) (.int Tryz.underlying3) rfl (by decide) (.cons rfl (by kernel_rfl) (.int Tryz.underlying3) rfl (by decide) (.one rfl (by kernel_rfl) (.bool Tryz.underlying4)))))))).weaken
    (fun _ => by omega) (fun _ h => ⟨Op.wf64 h.1, Op.wf64 h.2.1, Op.wf64 h.2.2.1, Op.wf64 h.2.2.2.1, Op.wf64 h.2.2.2.2.1⟩)
instance : Inhabited S41 := ⟨z41⟩
theorem opensRows : Op.Opens Tryz.prog 22 (Kd.slice 41 k41) (fun l => l.length + 1) (fun l => ∀ x ∈ l, okRow x) := Op.Opens.sliceLen Tryz.underlying22 (by kernel_rfl) opensRow

theorem walkAuditQuiet (W : World) (a : Option Addr) (cap : Nat) (l : List S41) (hC : k41.C W a l.length l) (hc : l.length ≤ cap) (hb : l.length + 1 ≤ 1048576) (_hok : ∀ x ∈ l, okRow x) (c : Int) (hc64 : -9223372036854775808 ≤ c ∧ c ≤ 9223372036854775807) :
    Calls Tryz.prog 3 #[.slice a l.length cap, .int .i64 c] W fun e W' => e = .returned (.bool true) ∧ Below W.heap.size W W' :=
  quiet_calls a cap l c W hC hc (by omega) hc64
end Go.Proofs.YtnmkgmfpnepmmaaGreatDoor.PA
