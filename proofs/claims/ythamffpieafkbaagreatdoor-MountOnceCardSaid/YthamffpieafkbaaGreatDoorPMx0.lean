-- printed by a program of this session (wip/tools), over the translation
import Derived.Test.YthamffpieafkbaaGreatDoorProg
import Derived.Below
import Derived.Deep.Draws
import Derived.Deep.AppendLies
import Derived.Maps.AppendAt
import Derived.OwnWalk
import Derived.Laws.BytesArg
import Derived.Laws.MakeOwn
import Derived.Laws.OwnMore
import Derived.Deep.OwnRows
import Derived.Tactics
import Derived.Lib.ConvBytes
import Derived.Laws.Slices
import Derived.WalkKit
import Derived.KernelRfl
import Derived.RowKit3
import Derived.Deep.LoopGhost
import Derived.Deep.QuietTactic
import Derived.BigQuiet
import Derived.WideLaws
import Derived.Deep.DeepCutAuto
import Derived.Deep.CutBlock
import Derived.Deep.RegionHeld3
import Derived.Laws.Rows
import Derived.Lib.AppendStr
import Derived.ArgAppend
import Derived.Laws.IdiomCopy
import Derived.OrdersHeld
import Derived.Laws.BitsLemmas
import Derived.RowKit
import Derived.Test.YthamffpieafkbaaGreatDoorWWords
import Derived.Test.YthamffpieafkbaaGreatDoorWLast
import Derived.Test.YthamffpieafkbaaGreatDoorWTab
import Derived.Test.YthamffpieafkbaaGreatDoorWFour
import Derived.Test.YthamffpieafkbaaGreatDoorWQPut
import Derived.Test.YthamffpieafkbaaGreatDoorWApart
import Derived.Test.YthamffpieafkbaaGreatDoorWArr
import Derived.Test.YthamffpieafkbaaGreatDoorWZeros
import Derived.Test.YthamffpieafkbaaGreatDoorWFoot
import Derived.Test.YthamffpieafkbaaGreatDoorWKept
import Derived.Test.YthamffpieafkbaaGreatDoorWShare
import Derived.Test.YthamffpieafkbaaGreatDoorWN
import Derived.Test.YthamffpieafkbaaGreatDoorWFootNe
import Derived.Test.YthamffpieafkbaaGreatDoorWAt
import Derived.Test.YthamffpieafkbaaGreatDoorWEqStruct
import Derived.Test.YthamffpieafkbaaGreatDoorWRepsOne
import Derived.Test.YthamffpieafkbaaGreatDoorWInv
import Derived.Test.YthamffpieafkbaaGreatDoorWInvWords
import Derived.Test.YthamffpieafkbaaGreatDoorWGuard
import Derived.Test.YthamffpieafkbaaGreatDoorWNEv
import Derived.Test.YthamffpieafkbaaGreatDoorWMore
namespace Go.Proofs.YthamffpieafkbaaGreatDoor.PM
open Go.RowKit Go.Proofs.YthamffpieafkbaaGreatDoorW.PrintWords Go.Proofs.YthamffpieafkbaaGreatDoorW.PrintLast Go.Proofs.YthamffpieafkbaaGreatDoorW.PrintMore
attribute [local go_sem] max2_int min2_int max_two min_two max_three min_three max_four min_four   -- for this text's walks alone
set_option linter.unusedVariables false
set_option linter.unusedSimpArgs false



def errW : Option Int → Value
  | none => .nilIface
  | some c => .iface 0 (.int .i64 c)
theorem errW_none : errW none = .nilIface := rfl
theorem errW_some (c : Int) : errW (some c) = .iface 0 (.int .i64 c) := rfl

-- the values' own types
/-! #### struct type 67 -/
structure S67 where
  f0 : ByteArray
  f1 : ByteArray
def z67 : S67 := ⟨(⟨#[]⟩ : ByteArray), (⟨#[]⟩ : ByteArray)⟩
def k67 : Kd S67 := Kd.iso (Kd.pair Kd.string Kd.string) (fun x : S67 => (x.f0, x.f1))
theorem k67_open {w : World} {x : S67} {cs : List Value} (h : k67.K w x cs) : cs = [.string x.f0, .string x.f1] := by
  obtain ⟨_, _, rfl, rfl, rfl⟩ := h
  exact rfl
theorem k67_openM {w : World} {base : Nat} {ok : Nat → Prop} {x : S67} {cs : List Value} (h : k67.M w base ok x cs) : cs = [.string x.f0, .string x.f1] := by
  obtain ⟨_, _, rfl, rfl, rfl⟩ := h
  exact rfl
theorem k67_mk (w : World) (x : S67)  : k67.K w x [.string x.f0, .string x.f1] := ⟨[.string x.f0], [.string x.f1], rfl, rfl, rfl⟩
theorem k67_mkM (w : World) (base : Nat) (ok : Nat → Prop) (x : S67)  : k67.M w base ok x [.string x.f0, .string x.f1] := ⟨[.string x.f0], [.string x.f1], rfl, rfl, rfl⟩
def rd_T67 (xs : List S67) (i : Int) : S67 := xs.getD i.toNat z67
theorem at_T67 {w : World} {A : Option Addr} {n : Nat} {xs : List S67} (h : Kd.C k67 w A n xs) (i : Int) (h0 : 0 ≤ i) (h1 : i < n) : ∃ ad , A = some ad ∧ w.cell? (ad.add (i.toNat * 2)) = some (.string (rd_T67 xs i).f0) ∧ w.cell? ⟨(ad.add (i.toNat * 2)).block, (ad.add (i.toNat * 2)).off + 1, none⟩ = some (.string (rd_T67 xs i).f1) := by
  obtain ⟨ad, c, e, _, hK, hc0⟩ := Kd.C_get h z67 i h0 h1
  have hc : ∀ j u, c[j]? = some u → w.cell? (ad.add (i.toNat * 2 + j)) = some u := hc0
  obtain rfl := k67_open hK
  exact ⟨ad, e, hc 0 _ rfl, by rw [← add_field _ _ 1 (by omega)]; exact hc 1 _ rfl⟩

end Go.Proofs.YthamffpieafkbaaGreatDoor.PM
