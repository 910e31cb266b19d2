/- The second form's card of SeglogScripts ('SeglogScriptsUptoCardSaid'): for every input of bulk at most 1048576 the law answers true, and its arguments read as they did. Conditions: the bulk alone. -/
import Derived.Test.YtfiocakhgpdlfaaDoorCards
import Derived.Test.YtfiocakhgpdlfaaDoorTie
import Derived.Test.YtfiocakhgpdlfaaDoorG66
import Derived.Test.YtfiocakhgpdlfaaDoorOp
import Derived.WalkKit
import Derived.ProofKit
import Derived.OpenShut
import Derived.Deep.DeepHandedRow
import Derived.Lib.LaidTab
import Derived.Shelf.Vars
import Derived.ChangeMaps5
import Derived.SliceStrings
import Derived.Carry
namespace Go.Proofs.YtfiocakhgpdlfaaDoor.seglogScripts
open Go.ChangeShapes Go.WideShapes Go.ChangeAt Go.RowKit Go.Proofs.YtfiocakhgpdlfaaDoorW.PrintWords Go.Proofs.YtfiocakhgpdlfaaDoorW.PrintLast Go.Proofs.YtfiocakhgpdlfaaDoorW.PrintMore
set_option linter.unusedVariables false

theorem own : ownKnob Tryd.prog.godebug = none := by kernel_rfl
theorem laidOut : laidOutB Tryd.prog = true := by kernel_rfl

/-- the acts of a script, as they are read -/
theorem opensAct : Op.Opens Tryd.prog 45 Sg.kAct (fun x => x.f2.size + 1) (fun _ => True) :=
  (Op.Opens.struct (fun x : Sg.ActR => (x.f0, x.f1, x.f2)) (fun x => ⟨x.1, x.2.1, x.2.2⟩) (fun _ => rfl) Tryd.underlying45 (by kernel_rfl)
    (.cons rfl (by kernel_rfl) (.int Tryd.underlying3) rfl (by decide) (.cons rfl (by kernel_rfl) (.int Tryd.underlying3) rfl (by decide) (.one rfl (by kernel_rfl) (.string Tryd.underlying9))))).weaken
    (fun _ => by dsimp only; omega) (fun _ _ => trivial)
theorem opensActs : Op.Opens Tryd.prog 40 (Kd.slice 45 Sg.kAct) (fun l => (l.map fun x => x.f2.size + 1).sum + 1) (fun l => ∀ x ∈ l, True) := Op.Opens.slice Tryd.underlying40 (by kernel_rfl) opensAct

set_option maxRecDepth 100000 in
theorem contract (H : Type) (enc : TypeId × Value → H) (W : World) (base : Nat) (args : Array Value) (ds gs : List (DataW H)) (before : List MemPlace)
    (hval : ∀ (j : Nat) t v, Tryd.f5.params[j]? = some t → args[j]? = some v → Value.okWide Tryd.prog W .any base t v)
    (hW : DataW.Whole enc Tryd.prog Tryd.f5.params.toList Rows.seglogScriptsSpec.vars false W args.toList ds gs before) (hk : Rows.uptoSmall H (ds ++ gs) = true) :
    Calls Tryd.prog 5 args W fun e W' => ∃ v, e = .returned v ∧ Rows.seglogScriptsSpec.post enc Tryd.prog Tryd.f5 false true false false W args v W' := by
  have hW' := hW
  obtain ⟨p, q, hA0, hV, rfl, hfz, hnd⟩ := hW
  have hA : DataW.TrodAll enc Tryd.prog W 0 (fun _ => true) true Tryd.f5.params.toList args.toList ds p := hA0
  rw [Tryd.params5] at hA hval
  obtain ⟨v0, vs0, d0, ds0, p0, q0, hargs, rfl, rfl, h0, r0⟩ := trodAll_cons hA
  obtain ⟨v1, vs1, d1, ds1, p1, q1, rfl, rfl, rfl, h1, r1⟩ := trodAll_cons r0
  obtain ⟨rfl, rfl, rfl⟩ := trodAll_nil r1
  obtain rfl : args = #[v0, v1] := by cases args; simp_all
  obtain ⟨rfl, rfl⟩ := trodVars_none hV
  have hB := Op.bound hk
  have kb1 : Rows.uptoBulk d1 ≤ 1048576 := Nat.le_trans (Op.part_le (by simp)) hB
  obtain ⟨b, rfl, rfl, rfl, wb⟩ := open_int Tryd.underlying3 (hval 0 3 v0 rfl rfl) h0
  obtain ⟨a1, len1, cap1, rfl⟩ := okWide_slice Tryd.underlying40 (hval 1 40 v1 rfl rfl)
  have k1 := h1
  have lt1 : ∀ x ∈ p1, x.block < W.heap.size := by obtain ⟨m, hm⟩ := k1; exact DataW.trod_lt m _ _ _ hm
  obtain ⟨acts, rfl, hc1, hC1, hw1, hok1⟩ := Op.Opens.arg opensActs h1
  have hX : Sg.SArgs W a1 acts :=
    { a := hC1
      la := by have := Op.len_le (wt := fun x : Sg.ActR => x.f2.size + 1) (fun x => by omega) acts; omega
      ta := fun x hx => by have := Op.wt_le (wt := fun x : Sg.ActR => x.f2.size + 1) hx; omega }
  refine (Sg.scripts_law b a1 cap1 acts W hX).mono fun e W' ⟨he, bel⟩ => ?_
  subst he
  exact ⟨_, rfl, _, _, _, [], _, [], hW', trodAll_mk1 (shut_bool Tryd.underlying4 _), (trodAll_cons_mk (shut_int Tryd.underlying3 wb) (trodAll_cons_mk (Below.trod laidOut (by kernel_rfl) (of_decide_eq_true (by kernel_rfl)) k1 bel lt1) trodAll_mk0)), rfl, bel.frame _, fun h => by cases h⟩

/-- the numbers of a table -/
def nums : List (DataW Unit) → List Value
  | [] => []
  | .lit (.int k n) :: r => .int k n :: nums r
  | .agg [.lit (.int k a), .lit (.int q b)] :: r => .int k a :: .int q b :: nums r
  | _ :: r => nums r
def parts : DataW Unit → List (DataW Unit)
  | .agg l => l
  | _ => []

def layTab (l : List Value) : Obj → Obj
  | .cells _ t frozen => .cells l.toArray t frozen
  | o => o
/-- A world for the witness: the settled one, the two tables laid. -/
noncomputable def laidWorld (os : Os) : World :=
  { World.holding Tryd.prog os ⟨#[], #[], []⟩ with heap := ((World.holding Tryd.prog os ⟨#[], #[], []⟩).heap.modify 1 (layTab (nums (parts Rows.laid_unicode_utf8_first)))).modify 2 (layTab (nums (parts Rows.laid_unicode_utf8_acceptRanges))) }
theorem laid_met (os : Os) : laidMet Tryd.prog Rows.seglogScriptsUptoRow.laid ((laidWorld os).forCall (fun _ _ => 0) ⟨#[], #[.int .i64 0, .slice none 0 0], []⟩).memory :=
  laidMet_of_run' 8 (by kernel_rfl) (by kernel_rfl)
theorem reads (os : Os) {H : Type} (enc : TypeId × Value → H) : ∃ places, DataW.whole enc Tryd.prog ((laidWorld os).forCall (fun _ _ => 0) ⟨#[], #[.int .i64 0, .slice none 0 0], []⟩).memory Tryd.f5.params.toList Rows.seglogScriptsSpec.vars false #[Value.int .i64 0, Value.slice none 0 0].toList 8 = some ([.lit (.int .i64 0), .nil], [], places) :=
  ⟨[], by kernel_rfl⟩

set_option maxRecDepth 100000 in
theorem lifted (os : Os) (started : os.Started) (H : Type) (enc : TypeId × Value → H) (F : Stop.Interp) :
    ReturnsInHanded {} Tryd.checked os 5 .any ((Rows.OpenSpec.upto Rows.seglogScriptsSpec).preRow enc Tryd.prog Tryd.f5 Rows.seglogScriptsUptoRow.domain false Rows.seglogScriptsUptoRow.laid) (((Rows.OpenSpec.upto Rows.seglogScriptsSpec).at F).post enc Tryd.prog Tryd.f5 false true false false) := by
  obtain ⟨places, hx⟩ := reads os enc
  refine returnsInHanded_of_row (C := Tryd.checked) (s := Rows.OpenSpec.upto Rows.seglogScriptsSpec) own started (by kernel_rfl) Tryd.func5
    (witness_row_at (enc := enc) (C := Tryd.checked) false (laidWorld os) #[.int .i64 0, .slice none 0 0] rfl (by kernel_rfl) (by kernel_rfl) (by kernel_rfl)
      (OpenSpec.preRow_of_cond 8 hx (by kernel_rfl) (fun k hk => by cases hk; kernel_rfl) (by kernel_rfl) (laid_met os))) ?_
  intro W base args ds gs before hval hW _ hcond _ _ _ _
  exact contract H enc W base args ds gs before hval hW (hcond _ rfl)

theorem said : Rows.SeglogScriptsUptoSaid :=
  OpenClaim.holds_of_cond 5 Tryd.f5 rfl rfl rfl rfl rfl rfl rfl ⟨rfl, rfl, rfl, rfl, rfl⟩ rfl rfl rfl rfl rfl (by kernel_rfl) Tryd.func5 (by kernel_rfl)
    (of_decide_eq_true (by kernel_rfl)) (by unfold Func.isWrapper; first | (rw [if_pos (by decide +kernel)]; kernel_rfl) | (rw [if_neg (by decide +kernel)]; exact ⟨rfl, rfl⟩))
    (fun os started H enc _ F => by rw [OpenClaim.pre_eq_preRow]; exact lifted os started H enc F)

theorem plain (f : FuncId) (fn : Func) (hf : Tryd.pinned.checked.prog.funcNamed "coracle/coraclelaw05.SeglogScripts" = some f) (hfn : Tryd.pinned.checked.prog.funcs[f]? = some fn) :
    false = Tryd.pinned.checked.prog.looks [] ∧ ∀ (j : Nat) t, fn.params[j]? = some t → Tryd.pinned.checked.prog.wantsStandIn t = false := by
  obtain rfl : f = 5 := Option.some.inj ((show Tryd.prog.funcNamed "coracle/coraclelaw05.SeglogScripts" = some 5 by kernel_rfl).symm.trans hf) |>.symm
  obtain rfl : fn = Tryd.f5 := (Option.some.inj (Tryd.func5.symm.trans hfn)).symm
  refine ⟨by kernel_rfl, fun j t ht => ?_⟩
  rw [Tryd.params5] at ht
  have hm := Array.mem_of_getElem? ht
  have ht2 : t = 3 ∨ t = 40 := by simpa using hm
  rcases ht2 with rfl | rfl
  · exact (show Tryd.prog.wantsStandIn 3 = false by kernel_rfl)
  · exact (show Tryd.prog.wantsStandIn 40 = false by kernel_rfl)

theorem card : Rows.SeglogScriptsUptoCardSaid :=
  Claim7.holds_tied_plain_at .later [] _ _ _ _ said (fun _ h => by cases h) (by kernel_rfl) (fun _ h => by cases h) seglogScriptsUpto_row_tie rfl ⟨rfl, rfl⟩ (by kernel_rfl) rfl plain (by kernel_rfl)
#print axioms card
end Go.Proofs.YtfiocakhgpdlfaaDoor.seglogScripts
namespace Go.Proofs.YtfiocakhgpdlfaaDoor
theorem seglogScripts_holds : Rows.SeglogScriptsUptoCardSaid := seglogScripts.card
end Go.Proofs.YtfiocakhgpdlfaaDoor
