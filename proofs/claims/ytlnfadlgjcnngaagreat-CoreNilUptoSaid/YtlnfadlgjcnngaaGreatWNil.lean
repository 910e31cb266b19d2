/- CoreNil: what is read of the call that the law is given. -/
import Derived.Test.YtlnfadlgjcnngaaGreatQ42
import Derived.Test.YtlnfadlgjcnngaaGreatOp
import Derived.OpenShut
namespace Go.Proofs.YtlnfadlgjcnngaaGreat.Co
open Go.RowKit Go.Maps Go.Lib Go.Proofs.YtlnfadlgjcnngaaGreat.Ap Go.Proofs.YtlnfadlgjcnngaaGreatW.PrintWords Go.Proofs.YtlnfadlgjcnngaaGreatW.PrintLast Go.Proofs.YtlnfadlgjcnngaaGreatW.PrintMore Go.ChangeShapes Go.WideShapes
set_option linter.unusedVariables false

theorem take_one {l : List Value} {k : Nat} {v : Value} (h : (l.drop k).take 1 = [v]) : l[k]? = some v := by
  have : ((l.drop k).take 1)[0]? = some v := by rw [h]; rfl
  simpa using this
theorem opensInts : Op.Opens Tryz.prog 25 (Kd.slice 3 (Kd.int .i64)) (fun l => l.length + 1) (fun l => ∀ x ∈ l, (Lit.int .i64 x).wf = true) := Op.Opens.sliceLen Tryz.underlying25 (by kernel_rfl) (Op.Opens.int Tryz.underlying3)
set_option maxRecDepth 100000 in
theorem act_open {H : Type} {enc : TypeId × Value → H} {W : World} {r : Reach} {b0 base : Nat} {sp : Nat → Bool} {held : Bool} {v : Value} {d : DataW H} {ps : List MemPlace} (hv : Value.okWide Tryz.prog W r b0 62 v) (h : DataW.Trod enc Tryz.prog W base sp held 62 v d ps) :
    ∃ (cs : Array Value) (id u g now : Int) (name : ByteArray) (A : Option Addr) (c : Nat) (l : List Int), v = .agg cs ∧ cs.size = 27 ∧ cs[1]? = some (.int .i64 id) ∧ cs[5]? = some (.string name) ∧ cs[22]? = some (.int .i64 u) ∧ cs[23]? = some (.int .i64 g) ∧ cs[24]? = some (.slice A l.length c) ∧ cs[25]? = some (.int .i64 now) ∧ Kd.C (Kd.int .i64) W A l.length l ∧ l.length ≤ Rows.uptoBulk d := by
  have hu := Tryz.underlying62
  obtain ⟨cs, rfl, hn⟩ : ∃ cs : Array Value, v = .agg cs ∧ cs.size = 27 := by
    simp only [Value.okWide, hu] at hv
    obtain ⟨cs, h1, h2, _⟩ := hv
    exact ⟨cs, h1, by rw [h2]; kernel_rfl⟩
  obtain ⟨fuel, hf⟩ := h
  obtain ⟨ys, m, rfl, hd, _, hl, hi⟩ := DataW.trod_struct hu hf
  have i1 := hi 1 _ rfl
  have i5 := hi 5 _ rfl
  have i9 := hi 9 _ rfl
  have i10 := hi 10 _ rfl
  have hl' : ys.length = 12 := hl
  have e3 : Tryz.prog.cellsOf 3 = 1 := by kernel_rfl
  have e9 : Tryz.prog.cellsOf 9 = 1 := by kernel_rfl
  have e60 : Tryz.prog.cellsOf 60 = 3 := by kernel_rfl
  have e25 : Tryz.prog.cellsOf 25 = 1 := by kernel_rfl
  have g1 : DataW.trod enc Tryz.prog W base sp held m 3 ((cs.toList.drop 1).take (Tryz.prog.cellsOf 3)) = ys[1]? := i1
  have g5 : DataW.trod enc Tryz.prog W base sp held m 9 ((cs.toList.drop 5).take (Tryz.prog.cellsOf 9)) = ys[5]? := i5
  have g9 : DataW.trod enc Tryz.prog W base sp held m 60 ((cs.toList.drop 22).take (Tryz.prog.cellsOf 60)) = ys[9]? := i9
  have g10 : DataW.trod enc Tryz.prog W base sp held m 3 ((cs.toList.drop 25).take (Tryz.prog.cellsOf 3)) = ys[10]? := i10
  clear i1 i5 i9 i10
  rw [e3] at g1 g10
  rw [e9] at g5
  rw [e60] at g9
  rw [List.getElem?_eq_getElem (by omega)] at g1 g5 g9 g10
  obtain ⟨id, q1, _⟩ := DataW.trod_int Tryz.underlying3 g1
  obtain ⟨name, q5, _⟩ := DataW.trod_string Tryz.underlying9 g5
  obtain ⟨now, q10, _⟩ := DataW.trod_int Tryz.underlying3 g10
  obtain ⟨zs, m2, rfl, hd2, _, hl2, hi2⟩ := DataW.trod_struct Tryz.underlying60 g9
  have j0 := hi2 0 _ rfl
  have j1 := hi2 1 _ rfl
  have j2 := hi2 2 _ rfl
  have hl2' : zs.length = 3 := hl2
  have f0 : DataW.trod enc Tryz.prog W base sp held m2 3 ((((cs.toList.drop 22).take 3).drop 0).take (Tryz.prog.cellsOf 3)) = zs[0]? := j0
  have f1 : DataW.trod enc Tryz.prog W base sp held m2 3 ((((cs.toList.drop 22).take 3).drop 1).take (Tryz.prog.cellsOf 3)) = zs[1]? := j1
  have f2 : DataW.trod enc Tryz.prog W base sp held m2 25 ((((cs.toList.drop 22).take 3).drop 2).take (Tryz.prog.cellsOf 25)) = zs[2]? := j2
  clear j0 j1 j2
  rw [e3] at f0 f1
  rw [e25] at f2
  rw [List.getElem?_eq_getElem (by omega)] at f0 f1 f2
  obtain ⟨u, r0, _⟩ := DataW.trod_int Tryz.underlying3 f0
  obtain ⟨g, r1, _⟩ := DataW.trod_int Tryz.underlying3 f1
  obtain ⟨l, ⟨A, c, r2, hc, hC⟩, hw, hok⟩ := opensInts.go f2
  have hbulk : Rows.uptoBulk (zs[2]'(by omega)).1 ≤ Rows.uptoBulk d := by
    have a1 : Rows.uptoBulk (zs[2]'(by omega)).1 ≤ Rows.uptoBulkAll (zs.map (·.1)) := Op.part_le (List.mem_map.2 ⟨_, List.getElem_mem _, rfl⟩)
    have a2 : Rows.uptoBulk (ys[9]'(by omega)).1 ≤ Rows.uptoBulkAll (ys.map (·.1)) := Op.part_le (List.mem_map.2 ⟨_, List.getElem_mem _, rfl⟩)
    rw [hd2] at a2
    rw [(Prod.mk.inj hd).1]
    simp only [Rows.uptoBulk] at a2 ⊢
    omega
  refine ⟨cs, id, u, g, now, name, A, c, l, rfl, hn, ?_, ?_, ?_, ?_, ?_, ?_, hC, by omega⟩
  · simpa using take_one q1
  · simpa using take_one q5
  · simpa [List.getElem?_take] using take_one r0
  · simpa [List.getElem?_take] using take_one r1
  · simpa [List.getElem?_take] using take_one r2
  · simpa using take_one q10
end Go.Proofs.YtlnfadlgjcnngaaGreat.Co
