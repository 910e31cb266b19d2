-- printed by a program of this session (wip/tools), over the translation
import Derived.Test.YtlnfadlgjcnngaaGreatProg
import Derived.Below
import Derived.Deep.Draws
import Derived.Deep.AppendLies
import Derived.Maps.AppendAt
import Derived.OwnWalk
import Derived.Laws.BytesArg
import Derived.Laws.MakeOwn
import Derived.Laws.OwnMore
import Derived.Deep.OwnRows
import Derived.Tactics
import Derived.Lib.ConvBytes
import Derived.Laws.Slices
import Derived.WalkKit
import Derived.KernelRfl
import Derived.RowKit3
import Derived.Deep.LoopGhost
import Derived.Deep.QuietTactic
import Derived.BigQuiet
import Derived.WideLaws
import Derived.Deep.DeepCutAuto
import Derived.Deep.CutBlock
import Derived.Deep.RegionHeld3
import Derived.Laws.Rows
import Derived.Lib.AppendStr
import Derived.ArgAppend
import Derived.Laws.IdiomCopy
import Derived.OrdersHeld
import Derived.Laws.BitsLemmas
import Derived.RowKit
import Derived.Test.YtlnfadlgjcnngaaGreatWWords
import Derived.Test.YtlnfadlgjcnngaaGreatWLast
import Derived.Test.YtlnfadlgjcnngaaGreatWTab
import Derived.Test.YtlnfadlgjcnngaaGreatWFour
import Derived.Test.YtlnfadlgjcnngaaGreatWQPut
import Derived.Test.YtlnfadlgjcnngaaGreatWApart
import Derived.Test.YtlnfadlgjcnngaaGreatWArr
import Derived.Test.YtlnfadlgjcnngaaGreatWZeros
import Derived.Test.YtlnfadlgjcnngaaGreatWFoot
import Derived.Test.YtlnfadlgjcnngaaGreatWKept
import Derived.Test.YtlnfadlgjcnngaaGreatWShare
import Derived.Test.YtlnfadlgjcnngaaGreatWN
import Derived.Test.YtlnfadlgjcnngaaGreatWFootNe
import Derived.Test.YtlnfadlgjcnngaaGreatWAt
import Derived.Test.YtlnfadlgjcnngaaGreatWEqStruct
import Derived.Test.YtlnfadlgjcnngaaGreatWRepsOne
import Derived.Test.YtlnfadlgjcnngaaGreatWInv
import Derived.Test.YtlnfadlgjcnngaaGreatWInvWords
import Derived.Test.YtlnfadlgjcnngaaGreatWGuard
import Derived.Test.YtlnfadlgjcnngaaGreatWNEv
import Derived.Test.YtlnfadlgjcnngaaGreatWMore
namespace Go.Proofs.YtlnfadlgjcnngaaGreat.PA
open Go.RowKit Go.Proofs.YtlnfadlgjcnngaaGreatW.PrintWords Go.Proofs.YtlnfadlgjcnngaaGreatW.PrintLast Go.Proofs.YtlnfadlgjcnngaaGreatW.PrintMore
attribute [local go_sem] max2_int min2_int max_two min_two max_three min_three max_four min_four   -- for this text's walks alone
set_option linter.unusedVariables false
set_option linter.unusedSimpArgs false



def errW : Option Int → Value
  | none => .nilIface
  | some c => .iface 0 (.int .i64 c)
theorem errW_none : errW none = .nilIface := rfl
theorem errW_some (c : Int) : errW (some c) = .iface 0 (.int .i64 c) := rfl

-- the values' own types
/-! #### struct type 108 -/
structure S108 where
  f0 : ByteArray
  f1 : Int
  f2 : Int
def z108 : S108 := ⟨(⟨#[]⟩ : ByteArray), (0 : Int), (0 : Int)⟩
def k108 : Kd S108 := Kd.iso (Kd.pair Kd.string (Kd.pair (Kd.int .i64) (Kd.int .i64))) (fun x : S108 => (x.f0, x.f1, x.f2))
theorem k108_open {w : World} {x : S108} {cs : List Value} (h : k108.K w x cs) : cs = [.string x.f0, .int .i64 x.f1, .int .i64 x.f2] := by
  obtain ⟨_, _, rfl, rfl, ⟨_, _, rfl, rfl, rfl⟩⟩ := h
  exact rfl
theorem k108_openM {w : World} {base : Nat} {ok : Nat → Prop} {x : S108} {cs : List Value} (h : k108.M w base ok x cs) : cs = [.string x.f0, .int .i64 x.f1, .int .i64 x.f2] := by
  obtain ⟨_, _, rfl, rfl, ⟨_, _, rfl, rfl, rfl⟩⟩ := h
  exact rfl
theorem k108_mk (w : World) (x : S108)  : k108.K w x [.string x.f0, .int .i64 x.f1, .int .i64 x.f2] := ⟨[.string x.f0], [.int .i64 x.f1, .int .i64 x.f2], rfl, rfl, ⟨[.int .i64 x.f1], [.int .i64 x.f2], rfl, rfl, rfl⟩⟩
theorem k108_mkM (w : World) (base : Nat) (ok : Nat → Prop) (x : S108)  : k108.M w base ok x [.string x.f0, .int .i64 x.f1, .int .i64 x.f2] := ⟨[.string x.f0], [.int .i64 x.f1, .int .i64 x.f2], rfl, rfl, ⟨[.int .i64 x.f1], [.int .i64 x.f2], rfl, rfl, rfl⟩⟩
def rd_T108 (xs : List S108) (i : Int) : S108 := xs.getD i.toNat z108
theorem at_T108 {w : World} {A : Option Addr} {n : Nat} {xs : List S108} (h : Kd.C k108 w A n xs) (i : Int) (h0 : 0 ≤ i) (h1 : i < n) : ∃ ad , A = some ad ∧ w.cell? (ad.add (i.toNat * 3)) = some (.string (rd_T108 xs i).f0) ∧ w.cell? ⟨(ad.add (i.toNat * 3)).block, (ad.add (i.toNat * 3)).off + 1, none⟩ = some (.int .i64 (rd_T108 xs i).f1) ∧ w.cell? ⟨(ad.add (i.toNat * 3)).block, (ad.add (i.toNat * 3)).off + 2, none⟩ = some (.int .i64 (rd_T108 xs i).f2) := by
  obtain ⟨ad, c, e, _, hK, hc0⟩ := Kd.C_get h z108 i h0 h1
  have hc : ∀ j u, c[j]? = some u → w.cell? (ad.add (i.toNat * 3 + j)) = some u := hc0
  obtain rfl := k108_open hK
  exact ⟨ad, e, hc 0 _ rfl, by rw [← add_field _ _ 1 (by omega)]; exact hc 1 _ rfl, by rw [← add_field _ _ 2 (by omega)]; exact hc 2 _ rfl⟩

end Go.Proofs.YtlnfadlgjcnngaaGreat.PA
