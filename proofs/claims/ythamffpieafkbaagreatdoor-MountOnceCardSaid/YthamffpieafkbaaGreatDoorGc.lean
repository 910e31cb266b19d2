/- schema.catch of a refusal: it is recovered, and its number is the answer. schema.Encode of a form that is one: its bytes, or the refusal's number. -/
import Derived.Test.YthamffpieafkbaaGreatDoorProg
import Derived.Tactics2
import Derived.Defers
import Derived.Recover
import Derived.Laws.Pointers
import Derived.WalkKit
import Derived.Test.YthamffpieafkbaaGreatDoorLa
import Derived.Test.YthamffpieafkbaaGreatDoorPs
namespace Go.Proofs.YthamffpieafkbaaGreatDoor.Xw
open Go.RowKit
set_option linter.unusedVariables false
set_option linter.unusedSimpArgs false

theorem assert_refuse (c : Int) (w : World) : (Instr.typeAssert (.iface 113 (.int .i64 c)) 20 113 true).run Tryz.prog w = .ok (.tuple #[.int .i64 c, .bool true]) w := by kernel_rfl

set_option maxRecDepth 100000 in
theorem catch_refused (p : Addr) (x : Value) (c : Int) (older : List PanicEntry) (w : World) (hc : w.cell? p = some x) (hz : w.frozen? p = false) :
    CallsD Tryz.prog 31 #[.pointer (some p)] (.panicking ({ v := .iface 113 (.int .i64 c), recovered := false } :: older)) w fun e u' w' =>
      e = .returned (.tuple #[]) ∧ u' = .panicking ({ v := .iface 113 (.int .i64 c), recovered := true } :: older) ∧ w' = w.setCell p (.int .i64 c) := by
  have ha := assert_refuse c
  refine callsD_of_wpS Tryz.func31 rfl fun c₀ cs hu => ?_
  apply wpS_seq
  apply wpS_region
  simp [wpOpsS, go_sem, recoverD, hu, Tryz.ntmps31, Exit.thenS]
  apply wpS_seq
  apply wpS_region
  simp [wpOpsS, go_sem, Exit.thenS]
  refine wpS_cond (t := true) (by simp [Act.eval, Array.replicate]) ?_
  simp only [if_true]
  apply wpS_seq
  apply wpS_region
  simp [wpOpsS, go_sem, ha, Exit.thenS]
  apply wpS_seq
  apply wpS_seq
  apply wpS_region
  simp [wpOpsS, go_sem, Exit.thenS]
  refine wpS_cond (t := false) (by simp [Act.eval, Array.replicate]) ?_
  simp only [Bool.false_eq_true, if_false]
  refine wpS_of_wp (wp_skip ?_)
  simp only [Exit.thenS]
  apply wpS_region
  simp [wpOpsS, go_sem, hc, hz, bodyPostS, results, Tryz.results31]
end Go.Proofs.YthamffpieafkbaaGreatDoor.Xw

namespace Go.Proofs.YthamffpieafkbaaGreatDoor.Xw
open Go.RowKit Go.Lib Go.Proofs.YthamffpieafkbaaGreatDoor.PA Go.Proofs.YthamffpieafkbaaGreatDoorW.PrintWords Go.Proofs.YthamffpieafkbaaGreatDoorW.PrintLast Go.Proofs.YthamffpieafkbaaGreatDoorW.PrintMore
set_option linter.unusedVariables false
set_option linter.unusedSimpArgs false

def lp0 : LP := ⟨[], 0, 0, 0⟩
/-- what Encode answers -/
def enc (N : List Int) (T : List ByteArray) (xs : List S117) : ByteArray × Int :=
  match layL N T xs lp0 with
  | none => (⟨#[]⟩, 4)
  | some s => if s.n < N.length ∨ s.t < T.length then (⟨#[]⟩, 4) else if 65536 < s.size then (⟨#[]⟩, 2) else (⟨s.out.toArray⟩, 0)

theorem RowAt.step {w w' : World} {A : Option Addr} {vs : List Value} (h : RowAt w A vs) (hb : Below w.heap.size w w') : RowAt w' A vs := fun i v hi => by
  obtain ⟨a, e, hc⟩ := h i v hi
  exact ⟨a, e, Lib.Below.cellOf hb hc (Nat.le_refl _)⟩
theorem LIs.new {w : World} {g B : Nat} {vN vT : Value} (h : w.heap[g]? = some (.cells #[.slice none 0 0, vN, vT, .int .i64 0, .int .i64 0, .int .i64 0] 86 (0, 0))) (hB : B ≤ g) : LIs B w g vN vT lp0 :=
  ⟨.slice none 0 0, ⟨h, rfl, ⟨by simp [byteCells, lp0], .inl ⟨rfl, rfl⟩⟩, hB, by decide⟩⟩
theorem wbytes_calls (B g : Nat) (vN vT : Value) (s : LP) (w : World) (h : LIs B w g vN vT s) :
    Calls Tryz.prog 33 #[.pointer (some ⟨g, 0, none⟩)] w fun e w' => e = .returned (.string ⟨s.out.toArray⟩) ∧ w' = w := by
  obtain ⟨v, h⟩ := h.ex
  exact bytes_calls B g _ _ v _ w h

theorem bel_drew {w0 w : World} (h : Below w0.heap.size w0 w) : Below w0.heap.size w0 w.drew := h.trans ((Lb.below_drew w).mono h.size)
theorem blk_keep {B : Nat} {w w' : World} {g : Nat} {o : Obj} (hb : Below B w w') (h : w.heap[g]? = some o) (hg : g < B) : w'.heap[g]? = some o := (hb.block g hg).trans h

set_option maxRecDepth 100000 in
set_option maxHeartbeats 4000000 in
theorem encode_calls (k : Nat) (l0 : ByteArray) (xs : List S117) (hp : schema_parse.f k l0 = some (xs, 0)) (hok : okL xs = true) (AN AT : Option Addr) (cN cT : Nat) (N : List Int) (T : List ByteArray) (w : World)
    (hrn : RowAt w AN (N.map (Value.int .i64))) (hrt : RowAt w AT (T.map Value.string)) (hln : N.length ≤ 1000000000000) (hlt : T.length ≤ 1000000000000) (hphi : phi N T lp0 ≤ 4000000000000000000) :
    Calls Tryz.prog 15 #[.string l0, .agg #[.slice AN N.length cN, .slice AT T.length cT]] w fun e w' => e = .returned (.tuple #[.string (enc N T xs).1, .int .i64 (enc N T xs).2]) ∧ Below w.heap.size w w' := by
  have HP := Aside0.mk hp
  have hHN := Aside0.mk hrn
  have hHT := Aside0.mk hrt
  have HLN := Aside0.mk hln
  have HLT := Aside0.mk hlt
  have HLAY0 : Aside0 (∀ (W : World) (A : Option Addr) (c : Nat), Kd.C k117 W A xs.length xs → Below w.heap.size w W → ∀ g W4, Below W.heap.size W W4 → LIs W.heap.size W4 g (.slice AN N.length cN) (.slice AT T.length cT) lp0 → Calls Tryz.prog 32 #[.pointer (some ⟨g, 0, none⟩), .slice A xs.length c] W4 fun e w' => Fr 86 W.heap.size W4 w' ∧ LayRes W.heap.size g (.slice AN N.length cN) (.slice AT T.length cT) (layL N T xs lp0) e w') :=
    ⟨fun W A c hC hB g W4 hb4 hL => lay_calls W.heap.size W AN AT cN cT N T ⟨hrn.step hB, hrt.step hB, Nat.le_refl _, hln, hlt⟩ (SizeOf.sizeOf xs) xs (Nat.le_refl _) A c g lp0 W4 hC hb4 hL hok hphi ⟨by simp [lp0], by simp [lp0]⟩⟩
  clear hp hok hrn hrt hln hlt hphi
  have hb0 : Below w.heap.size w (w.alloc (.cells #[.slice AN N.length cN, .slice AT T.length cT] 40)) := below_alloc (Below.refl _ _) _
  have hb1 := Aside0.mk (below_alloc hb0 (.cells #[.int .i64 0] 51))
  have hv1 : Aside0 (((w.alloc (.cells #[.slice AN N.length cN, .slice AT T.length cT] 40)).alloc (.cells #[.int .i64 0] 51)).heap[w.heap.size]? = some (.cells #[.slice AN N.length cN, .slice AT T.length cT] 40 (0, 0))) := ⟨blk_alloc (by simpa using heap_alloc_new w (.cells #[.slice AN N.length cN, .slice AT T.length cT] 40)) _⟩
  have he1 : Aside0 (((w.alloc (.cells #[.slice AN N.length cN, .slice AT T.length cT] 40)).alloc (.cells #[.int .i64 0] 51)).heap[w.heap.size + 1]? = some (.cells #[.int .i64 0] 51 (0, 0))) := ⟨by simpa using heap_alloc_new (w.alloc (.cells #[.slice AN N.length cN, .slice AT T.length cT] 40)) (.cells #[.int .i64 0] 51)⟩
  have hs1 : Aside0 (((w.alloc (.cells #[.slice AN N.length cN, .slice AT T.length cT] 40)).alloc (.cells #[.int .i64 0] 51)).heap.size = w.heap.size + 2) := ⟨by simp⟩
  clear hb0
  cases hlay : layL N T xs lp0 with
  | none =>
    have HLAYE := Aside0.mk hlay
    have henc : enc N T xs = (⟨#[]⟩, 4) := by unfold enc; rw [hlay]
    have HENC := Aside0.mk henc
    clear hlay henc
    go_enter_defers Tryz.func15, Tryz.ntmps15
    go_wp2_with (first
      | (go_at_call 30; (with_reducible refine (schema_parse.calls k l0 xs 0 _ HP.out).mono ?_); rintro e w2 ⟨v0, rfl, ho, hb⟩; obtain ⟨A, c, rfl⟩ := Kd.N_slice ho; have HO2 := Aside0.mk ho; have HV2 := Aside0.mk (Lb.blk_below hv1.out hb); have HE2 := Aside0.mk (Lb.blk_below he1.out hb); have HB2 := Aside0.mk (hb1.out.trans (hb.mono (by have := hs1.out; omega))); have HS2 : Aside0 (w.heap.size + 2 ≤ w2.heap.size) := ⟨by have := hs1.out; have := hb.size; omega⟩; have hce := (blk_cell HE2.out 0).trans rfl; have hfe := blk_frozen HE2.out 0; clear ho hb)
      | ((with_reducible refine gate_store (t := 51) (p := 5) rfl ?_); refine store_event (t := 51) (p := 5) (v := ?vo) (w1 := w2.setCell ⟨w.heap.size + 1, 0, none⟩ (.int .i64 0)) ?hg ?ho ?hn ?hr ?_; (case ho => rfl); (case hg => rfl); (case hn => rfl); (case hr => first | (go_simp; done) | (go_simp; rfl)); intro w3 hw; have HV3 : Aside0 (w3.heap[w.heap.size]? = some (.cells #[.slice AN N.length cN, .slice AT T.length cT] 40 (0, 0))) := ⟨by rw [hw]; exact Lb.blk_grown' HV2.out (Lb.setCell_grown _ _ _ _ _ _ HE2.out) (by omega)⟩; have HE3 : Aside0 (w3.heap[w.heap.size + 1]? = some (.cells #[.int .i64 0] 51 (0, 0))) := ⟨by rw [hw]; exact Lb.setCell_block _ _ _ _ _ _ HE2.out⟩; have HC3 : Aside0 (Kd.C k117 w3 A xs.length xs) := ⟨by rw [hw]; exact (Kd.N_reads' (Kd.N_far (p := ⟨w.heap.size + 1, 0, none⟩) HO2.out (fun k_ hk_ => by have := hs1.out; show k_ ≠ w.heap.size + 1; omega) _)).2.2⟩; have HB3 : Aside0 (Below w.heap.size w w3) := ⟨by rw [hw]; exact below_set HB2.out (by show _ ≤ w.heap.size + 1; omega)⟩; have HS3 : Aside0 (w.heap.size + 2 ≤ w3.heap.size) := ⟨by have := HS2.out; rw [hw]; simpa using this⟩; clear hw hce hfe; have hce := (blk_cell HE3.out 0).trans rfl; have hfe := blk_frozen HE3.out 0; have hv0 := (blk_cell HV3.out 0).trans rfl; have hv1 := (blk_cell HV3.out 1).trans rfl)
      | ((with_reducible refine gate_dst (N := 18) rfl ?_); refine box_event ?hg (N := 18) ?hd (cs := #[.slice none 0 0, .slice AN N.length cN, .slice AT T.length cT, .int .i64 0, .int .i64 0, .int .i64 0]) (t := 86) ?hr ?_; (case hd => rfl); (case hg => rfl); (case hr => first | (go_simp; done) | (go_simp; rfl)); intro gl hgl w4 hx4 hb4; have HL4 := Aside0.mk (LIs.new (B := w3.heap.size) hx4 (by omega)); have HB4 := Aside0.mk hb4; clear hx4 hce hfe hv0 hv1 hgl hb4)
      | (go_at_call 32; (with_reducible refine (HLAY0.out w3 A c HC3.out HB3.out gl w4 HB4.out HL4.out).mono ?_); rintro e w5 ⟨hfr, hres⟩; have hb5 := HB4.out.trans hfr.bel; have HV5 := Aside0.mk (blk_keep hb5 HV3.out (by have := HS3.out; omega)); have HE5 := Aside0.mk (blk_keep hb5 HE3.out (by have := HS3.out; omega)); have HB5 := Aside0.mk (HB3.out.trans (hb5.mono (by have := HS3.out; omega))); have he := hres.no HLAYE.out; unfold bad at he; subst he; clear hfr hres hb5))
    refine leaves_cons (f := 31) (args := #[.pointer (some ⟨w.heap.size + 1, 0, none⟩)]) (by simp) (by simp [go_sem]) ?_
    refine (catch_refused ⟨w.heap.size + 1, 0, none⟩ (.int .i64 0) 4 [] _ ((blk_cell HE5.out 0).trans rfl) (blk_frozen HE5.out 0)).mono ?_
    rintro e u' w'' ⟨rfl, rfl, rfl⟩
    have hce := (blk_cell HE5.out 0).trans rfl
    have hsame : (w5.setCell ⟨w.heap.size + 1, 0, none⟩ (.int .i64 4)).cell? ⟨w.heap.size + 1, 0, none⟩ = some (.int .i64 4) := by simp [World.cell?_setCell_same, hce]
    show Leaves Tryz.prog _ _ _ [] .returning _
    refine ⟨.tuple #[.string ⟨#[]⟩, .int .i64 4], by simp [results, Tryz.results15, go_sem, hsame], ?_⟩
    rw [HENC.out]
    exact ⟨rfl, below_set HB5.out (by show _ ≤ w.heap.size + 1; omega)⟩
  | some s =>
    have HLAYE := Aside0.mk hlay
    by_cases h1 : s.n < N.length
    · have HENC : Aside0 (enc N T xs = (⟨#[]⟩, 4)) := ⟨by unfold enc; rw [hlay]; simp only [if_pos (Or.inl h1 : s.n < N.length ∨ s.t < T.length)]⟩
      have d1 : decide (s.n < N.length) = true := decide_eq_true h1
      have d1i : decide ((s.n : Int) < (N.length : Int)) = true := decide_eq_true (by omega)
      clear hlay
      go_enter_defers Tryz.func15, Tryz.ntmps15
      go_wp2_with (first
      | (go_at_call 30; (with_reducible refine (schema_parse.calls k l0 xs 0 _ HP.out).mono ?_); rintro e w2 ⟨v0, rfl, ho, hb⟩; obtain ⟨A, c, rfl⟩ := Kd.N_slice ho; have HO2 := Aside0.mk ho; have HV2 := Aside0.mk (Lb.blk_below hv1.out hb); have HE2 := Aside0.mk (Lb.blk_below he1.out hb); have HB2 := Aside0.mk (hb1.out.trans (hb.mono (by have := hs1.out; omega))); have HS2 : Aside0 (w.heap.size + 2 ≤ w2.heap.size) := ⟨by have := hs1.out; have := hb.size; omega⟩; have hce := (blk_cell HE2.out 0).trans rfl; have hfe := blk_frozen HE2.out 0; clear ho hb)
      | ((with_reducible refine gate_store (t := 51) (p := 5) rfl ?_); refine store_event (t := 51) (p := 5) (v := ?vo) (w1 := w2.setCell ⟨w.heap.size + 1, 0, none⟩ (.int .i64 0)) ?hg ?ho ?hn ?hr ?_; (case ho => rfl); (case hg => rfl); (case hn => rfl); (case hr => first | (go_simp; done) | (go_simp; rfl)); intro w3 hw; have HV3 : Aside0 (w3.heap[w.heap.size]? = some (.cells #[.slice AN N.length cN, .slice AT T.length cT] 40 (0, 0))) := ⟨by rw [hw]; exact Lb.blk_grown' HV2.out (Lb.setCell_grown _ _ _ _ _ _ HE2.out) (by omega)⟩; have HE3 : Aside0 (w3.heap[w.heap.size + 1]? = some (.cells #[.int .i64 0] 51 (0, 0))) := ⟨by rw [hw]; exact Lb.setCell_block _ _ _ _ _ _ HE2.out⟩; have HC3 : Aside0 (Kd.C k117 w3 A xs.length xs) := ⟨by rw [hw]; exact (Kd.N_reads' (Kd.N_far (p := ⟨w.heap.size + 1, 0, none⟩) HO2.out (fun k_ hk_ => by have := hs1.out; show k_ ≠ w.heap.size + 1; omega) _)).2.2⟩; have HB3 : Aside0 (Below w.heap.size w w3) := ⟨by rw [hw]; exact below_set HB2.out (by show _ ≤ w.heap.size + 1; omega)⟩; have HS3 : Aside0 (w.heap.size + 2 ≤ w3.heap.size) := ⟨by have := HS2.out; rw [hw]; simpa using this⟩; clear hw hce hfe; have hce := (blk_cell HE3.out 0).trans rfl; have hfe := blk_frozen HE3.out 0; have hv0 := (blk_cell HV3.out 0).trans rfl; have hv1 := (blk_cell HV3.out 1).trans rfl)
      | ((with_reducible refine gate_dst (N := 18) rfl ?_); refine box_event ?hg (N := 18) ?hd (cs := #[.slice none 0 0, .slice AN N.length cN, .slice AT T.length cT, .int .i64 0, .int .i64 0, .int .i64 0]) (t := 86) ?hr ?_; (case hd => rfl); (case hg => rfl); (case hr => first | (go_simp; done) | (go_simp; rfl)); intro gl hgl w4 hx4 hb4; have HL4 := Aside0.mk (LIs.new (B := w3.heap.size) hx4 (by omega)); have HB4 := Aside0.mk hb4; clear hx4 hce hfe hv0 hv1 hgl hb4)
      | (go_at_call 32; (with_reducible refine (HLAY0.out w3 A c HC3.out HB3.out gl w4 HB4.out HL4.out).mono ?_); rintro e w5 ⟨hfr, hres⟩; have hb5 := HB4.out.trans hfr.bel; have HV5 := Aside0.mk (blk_keep hb5 HV3.out (by have := HS3.out; omega)); have HE5 := Aside0.mk (blk_keep hb5 HE3.out (by have := HS3.out; omega)); have HB5 := Aside0.mk (HB3.out.trans (hb5.mono (by have := HS3.out; omega))); obtain ⟨he, hl⟩ := hres.yes HLAYE.out; subst he; have HL5 := Aside0.mk hl; obtain ⟨c1, c2, c3, c4, c5⟩ := hl.cells; have hce := (blk_cell HE5.out 0).trans rfl; have hfe := blk_frozen HE5.out 0; have hv0 := (blk_cell HV5.out 0).trans rfl; have hv1 := (blk_cell HV5.out 1).trans rfl; clear hl; clear hfr hres hb5))

      go_region
      all_goals go_wp2
      all_goals (
        refine leaves_cons (f := 31) (args := #[.pointer (some ⟨w.heap.size + 1, 0, none⟩)]) (by simp) (by simp [go_sem]) ?_
        refine (catch_idle ⟨w.heap.size + 1, 0, none⟩ _).mono ?_
        rintro e u' w'' ⟨rfl, rfl, rfl⟩
        have hce := (blk_cell HE5.out 0).trans rfl
        have hsame : (w5.setCell ⟨w.heap.size + 1, 0, none⟩ (.int .i64 4)).cell? ⟨w.heap.size + 1, 0, none⟩ = some (.int .i64 4) := by simp [World.cell?_setCell_same, hce]
        show Leaves Tryz.prog _ _ _ [] .returning _
        refine ⟨.tuple #[.string ⟨#[]⟩, .int .i64 4], by simp [results, Tryz.results15, go_sem, hsame], ?_⟩
        rw [HENC.out]
        exact ⟨rfl, bel_drew (below_set HB5.out (by show _ ≤ w.heap.size + 1; omega))⟩)
    · have d1 : decide (s.n < N.length) = false := decide_eq_false h1
      have d1i : decide ((s.n : Int) < (N.length : Int)) = false := decide_eq_false (by omega)
      by_cases h2 : s.t < T.length
      · have HENC : Aside0 (enc N T xs = (⟨#[]⟩, 4)) := ⟨by unfold enc; rw [hlay]; simp only [if_pos (Or.inr h2 : s.n < N.length ∨ s.t < T.length)]⟩
        have d2 : decide (s.t < T.length) = true := decide_eq_true h2
        have d2i : decide ((s.t : Int) < (T.length : Int)) = true := decide_eq_true (by omega)
        clear hlay
        go_enter_defers Tryz.func15, Tryz.ntmps15
        go_wp2_with (first
        | (go_at_call 30; (with_reducible refine (schema_parse.calls k l0 xs 0 _ HP.out).mono ?_); rintro e w2 ⟨v0, rfl, ho, hb⟩; obtain ⟨A, c, rfl⟩ := Kd.N_slice ho; have HO2 := Aside0.mk ho; have HV2 := Aside0.mk (Lb.blk_below hv1.out hb); have HE2 := Aside0.mk (Lb.blk_below he1.out hb); have HB2 := Aside0.mk (hb1.out.trans (hb.mono (by have := hs1.out; omega))); have HS2 : Aside0 (w.heap.size + 2 ≤ w2.heap.size) := ⟨by have := hs1.out; have := hb.size; omega⟩; have hce := (blk_cell HE2.out 0).trans rfl; have hfe := blk_frozen HE2.out 0; clear ho hb)
        | ((with_reducible refine gate_store (t := 51) (p := 5) rfl ?_); refine store_event (t := 51) (p := 5) (v := ?vo) (w1 := w2.setCell ⟨w.heap.size + 1, 0, none⟩ (.int .i64 0)) ?hg ?ho ?hn ?hr ?_; (case ho => rfl); (case hg => rfl); (case hn => rfl); (case hr => first | (go_simp; done) | (go_simp; rfl)); intro w3 hw; have HV3 : Aside0 (w3.heap[w.heap.size]? = some (.cells #[.slice AN N.length cN, .slice AT T.length cT] 40 (0, 0))) := ⟨by rw [hw]; exact Lb.blk_grown' HV2.out (Lb.setCell_grown _ _ _ _ _ _ HE2.out) (by omega)⟩; have HE3 : Aside0 (w3.heap[w.heap.size + 1]? = some (.cells #[.int .i64 0] 51 (0, 0))) := ⟨by rw [hw]; exact Lb.setCell_block _ _ _ _ _ _ HE2.out⟩; have HC3 : Aside0 (Kd.C k117 w3 A xs.length xs) := ⟨by rw [hw]; exact (Kd.N_reads' (Kd.N_far (p := ⟨w.heap.size + 1, 0, none⟩) HO2.out (fun k_ hk_ => by have := hs1.out; show k_ ≠ w.heap.size + 1; omega) _)).2.2⟩; have HB3 : Aside0 (Below w.heap.size w w3) := ⟨by rw [hw]; exact below_set HB2.out (by show _ ≤ w.heap.size + 1; omega)⟩; have HS3 : Aside0 (w.heap.size + 2 ≤ w3.heap.size) := ⟨by have := HS2.out; rw [hw]; simpa using this⟩; clear hw hce hfe; have hce := (blk_cell HE3.out 0).trans rfl; have hfe := blk_frozen HE3.out 0; have hv0 := (blk_cell HV3.out 0).trans rfl; have hv1 := (blk_cell HV3.out 1).trans rfl)
        | ((with_reducible refine gate_dst (N := 18) rfl ?_); refine box_event ?hg (N := 18) ?hd (cs := #[.slice none 0 0, .slice AN N.length cN, .slice AT T.length cT, .int .i64 0, .int .i64 0, .int .i64 0]) (t := 86) ?hr ?_; (case hd => rfl); (case hg => rfl); (case hr => first | (go_simp; done) | (go_simp; rfl)); intro gl hgl w4 hx4 hb4; have HL4 := Aside0.mk (LIs.new (B := w3.heap.size) hx4 (by omega)); have HB4 := Aside0.mk hb4; clear hx4 hce hfe hv0 hv1 hgl hb4)
        | (go_at_call 32; (with_reducible refine (HLAY0.out w3 A c HC3.out HB3.out gl w4 HB4.out HL4.out).mono ?_); rintro e w5 ⟨hfr, hres⟩; have hb5 := HB4.out.trans hfr.bel; have HV5 := Aside0.mk (blk_keep hb5 HV3.out (by have := HS3.out; omega)); have HE5 := Aside0.mk (blk_keep hb5 HE3.out (by have := HS3.out; omega)); have HB5 := Aside0.mk (HB3.out.trans (hb5.mono (by have := HS3.out; omega))); obtain ⟨he, hl⟩ := hres.yes HLAYE.out; subst he; have HL5 := Aside0.mk hl; obtain ⟨c1, c2, c3, c4, c5⟩ := hl.cells; have hce := (blk_cell HE5.out 0).trans rfl; have hfe := blk_frozen HE5.out 0; have hv0 := (blk_cell HV5.out 0).trans rfl; have hv1 := (blk_cell HV5.out 1).trans rfl; clear hl; clear hfr hres hb5))
  
        go_region
        all_goals go_wp2
        all_goals (
          refine leaves_cons (f := 31) (args := #[.pointer (some ⟨w.heap.size + 1, 0, none⟩)]) (by simp) (by simp [go_sem]) ?_
          refine (catch_idle ⟨w.heap.size + 1, 0, none⟩ _).mono ?_
          rintro e u' w'' ⟨rfl, rfl, rfl⟩
          have hce := (blk_cell HE5.out 0).trans rfl
          have hsame : (w5.setCell ⟨w.heap.size + 1, 0, none⟩ (.int .i64 4)).cell? ⟨w.heap.size + 1, 0, none⟩ = some (.int .i64 4) := by simp [World.cell?_setCell_same, hce]
          show Leaves Tryz.prog _ _ _ [] .returning _
          refine ⟨.tuple #[.string ⟨#[]⟩, .int .i64 4], by simp [results, Tryz.results15, go_sem, hsame], ?_⟩
          rw [HENC.out]
          exact ⟨rfl, bel_drew (below_set HB5.out (by show _ ≤ w.heap.size + 1; omega))⟩)
      · have d2 : decide (s.t < T.length) = false := decide_eq_false h2
        have d2i : decide ((s.t : Int) < (T.length : Int)) = false := decide_eq_false (by omega)
        by_cases h3 : 65536 < s.size
        · have HENC : Aside0 (enc N T xs = (⟨#[]⟩, 2)) := ⟨by unfold enc; rw [hlay]; simp only [if_neg (show ¬ (s.n < N.length ∨ s.t < T.length) by omega), if_pos h3]⟩
          have d3 : decide (65536 < s.size) = true := decide_eq_true h3
          have d3i : decide ((65536 : Int) < (s.size : Int)) = true := decide_eq_true (by omega)
          clear hlay
          go_enter_defers Tryz.func15, Tryz.ntmps15
          go_wp2_with (first
          | (go_at_call 30; (with_reducible refine (schema_parse.calls k l0 xs 0 _ HP.out).mono ?_); rintro e w2 ⟨v0, rfl, ho, hb⟩; obtain ⟨A, c, rfl⟩ := Kd.N_slice ho; have HO2 := Aside0.mk ho; have HV2 := Aside0.mk (Lb.blk_below hv1.out hb); have HE2 := Aside0.mk (Lb.blk_below he1.out hb); have HB2 := Aside0.mk (hb1.out.trans (hb.mono (by have := hs1.out; omega))); have HS2 : Aside0 (w.heap.size + 2 ≤ w2.heap.size) := ⟨by have := hs1.out; have := hb.size; omega⟩; have hce := (blk_cell HE2.out 0).trans rfl; have hfe := blk_frozen HE2.out 0; clear ho hb)
          | ((with_reducible refine gate_store (t := 51) (p := 5) rfl ?_); refine store_event (t := 51) (p := 5) (v := ?vo) (w1 := w2.setCell ⟨w.heap.size + 1, 0, none⟩ (.int .i64 0)) ?hg ?ho ?hn ?hr ?_; (case ho => rfl); (case hg => rfl); (case hn => rfl); (case hr => first | (go_simp; done) | (go_simp; rfl)); intro w3 hw; have HV3 : Aside0 (w3.heap[w.heap.size]? = some (.cells #[.slice AN N.length cN, .slice AT T.length cT] 40 (0, 0))) := ⟨by rw [hw]; exact Lb.blk_grown' HV2.out (Lb.setCell_grown _ _ _ _ _ _ HE2.out) (by omega)⟩; have HE3 : Aside0 (w3.heap[w.heap.size + 1]? = some (.cells #[.int .i64 0] 51 (0, 0))) := ⟨by rw [hw]; exact Lb.setCell_block _ _ _ _ _ _ HE2.out⟩; have HC3 : Aside0 (Kd.C k117 w3 A xs.length xs) := ⟨by rw [hw]; exact (Kd.N_reads' (Kd.N_far (p := ⟨w.heap.size + 1, 0, none⟩) HO2.out (fun k_ hk_ => by have := hs1.out; show k_ ≠ w.heap.size + 1; omega) _)).2.2⟩; have HB3 : Aside0 (Below w.heap.size w w3) := ⟨by rw [hw]; exact below_set HB2.out (by show _ ≤ w.heap.size + 1; omega)⟩; have HS3 : Aside0 (w.heap.size + 2 ≤ w3.heap.size) := ⟨by have := HS2.out; rw [hw]; simpa using this⟩; clear hw hce hfe; have hce := (blk_cell HE3.out 0).trans rfl; have hfe := blk_frozen HE3.out 0; have hv0 := (blk_cell HV3.out 0).trans rfl; have hv1 := (blk_cell HV3.out 1).trans rfl)
          | ((with_reducible refine gate_dst (N := 18) rfl ?_); refine box_event ?hg (N := 18) ?hd (cs := #[.slice none 0 0, .slice AN N.length cN, .slice AT T.length cT, .int .i64 0, .int .i64 0, .int .i64 0]) (t := 86) ?hr ?_; (case hd => rfl); (case hg => rfl); (case hr => first | (go_simp; done) | (go_simp; rfl)); intro gl hgl w4 hx4 hb4; have HL4 := Aside0.mk (LIs.new (B := w3.heap.size) hx4 (by omega)); have HB4 := Aside0.mk hb4; clear hx4 hce hfe hv0 hv1 hgl hb4)
          | (go_at_call 32; (with_reducible refine (HLAY0.out w3 A c HC3.out HB3.out gl w4 HB4.out HL4.out).mono ?_); rintro e w5 ⟨hfr, hres⟩; have hb5 := HB4.out.trans hfr.bel; have HV5 := Aside0.mk (blk_keep hb5 HV3.out (by have := HS3.out; omega)); have HE5 := Aside0.mk (blk_keep hb5 HE3.out (by have := HS3.out; omega)); have HB5 := Aside0.mk (HB3.out.trans (hb5.mono (by have := HS3.out; omega))); obtain ⟨he, hl⟩ := hres.yes HLAYE.out; subst he; have HL5 := Aside0.mk hl; obtain ⟨c1, c2, c3, c4, c5⟩ := hl.cells; have hce := (blk_cell HE5.out 0).trans rfl; have hfe := blk_frozen HE5.out 0; have hv0 := (blk_cell HV5.out 0).trans rfl; have hv1 := (blk_cell HV5.out 1).trans rfl; clear hl; clear hfr hres hb5))
    
          go_region
          all_goals go_wp2
          all_goals (
            refine leaves_cons (f := 31) (args := #[.pointer (some ⟨w.heap.size + 1, 0, none⟩)]) (by simp) (by simp [go_sem]) ?_
            refine (catch_idle ⟨w.heap.size + 1, 0, none⟩ _).mono ?_
            rintro e u' w'' ⟨rfl, rfl, rfl⟩
            have hce := (blk_cell HE5.out 0).trans rfl
            have hsame : (w5.setCell ⟨w.heap.size + 1, 0, none⟩ (.int .i64 2)).cell? ⟨w.heap.size + 1, 0, none⟩ = some (.int .i64 2) := by simp [World.cell?_setCell_same, hce]
            show Leaves Tryz.prog _ _ _ [] .returning _
            refine ⟨.tuple #[.string ⟨#[]⟩, .int .i64 2], by simp [results, Tryz.results15, go_sem, hsame], ?_⟩
            rw [HENC.out]
            exact ⟨rfl, bel_drew (below_set HB5.out (by show _ ≤ w.heap.size + 1; omega))⟩)
        · have HENC : Aside0 (enc N T xs = (⟨s.out.toArray⟩, 0)) := ⟨by unfold enc; rw [hlay]; simp only [if_neg (show ¬ (s.n < N.length ∨ s.t < T.length) by omega), if_neg h3]⟩
          have d3 : decide (65536 < s.size) = false := decide_eq_false h3
          have d3i : decide ((65536 : Int) < (s.size : Int)) = false := decide_eq_false (by omega)
          clear hlay
          go_enter_defers Tryz.func15, Tryz.ntmps15
          go_wp2_with (first
          | (go_at_call 30; (with_reducible refine (schema_parse.calls k l0 xs 0 _ HP.out).mono ?_); rintro e w2 ⟨v0, rfl, ho, hb⟩; obtain ⟨A, c, rfl⟩ := Kd.N_slice ho; have HO2 := Aside0.mk ho; have HV2 := Aside0.mk (Lb.blk_below hv1.out hb); have HE2 := Aside0.mk (Lb.blk_below he1.out hb); have HB2 := Aside0.mk (hb1.out.trans (hb.mono (by have := hs1.out; omega))); have HS2 : Aside0 (w.heap.size + 2 ≤ w2.heap.size) := ⟨by have := hs1.out; have := hb.size; omega⟩; have hce := (blk_cell HE2.out 0).trans rfl; have hfe := blk_frozen HE2.out 0; clear ho hb)
          | ((with_reducible refine gate_store (t := 51) (p := 5) rfl ?_); refine store_event (t := 51) (p := 5) (v := ?vo) (w1 := w2.setCell ⟨w.heap.size + 1, 0, none⟩ (.int .i64 0)) ?hg ?ho ?hn ?hr ?_; (case ho => rfl); (case hg => rfl); (case hn => rfl); (case hr => first | (go_simp; done) | (go_simp; rfl)); intro w3 hw; have HV3 : Aside0 (w3.heap[w.heap.size]? = some (.cells #[.slice AN N.length cN, .slice AT T.length cT] 40 (0, 0))) := ⟨by rw [hw]; exact Lb.blk_grown' HV2.out (Lb.setCell_grown _ _ _ _ _ _ HE2.out) (by omega)⟩; have HE3 : Aside0 (w3.heap[w.heap.size + 1]? = some (.cells #[.int .i64 0] 51 (0, 0))) := ⟨by rw [hw]; exact Lb.setCell_block _ _ _ _ _ _ HE2.out⟩; have HC3 : Aside0 (Kd.C k117 w3 A xs.length xs) := ⟨by rw [hw]; exact (Kd.N_reads' (Kd.N_far (p := ⟨w.heap.size + 1, 0, none⟩) HO2.out (fun k_ hk_ => by have := hs1.out; show k_ ≠ w.heap.size + 1; omega) _)).2.2⟩; have HB3 : Aside0 (Below w.heap.size w w3) := ⟨by rw [hw]; exact below_set HB2.out (by show _ ≤ w.heap.size + 1; omega)⟩; have HS3 : Aside0 (w.heap.size + 2 ≤ w3.heap.size) := ⟨by have := HS2.out; rw [hw]; simpa using this⟩; clear hw hce hfe; have hce := (blk_cell HE3.out 0).trans rfl; have hfe := blk_frozen HE3.out 0; have hv0 := (blk_cell HV3.out 0).trans rfl; have hv1 := (blk_cell HV3.out 1).trans rfl)
          | ((with_reducible refine gate_dst (N := 18) rfl ?_); refine box_event ?hg (N := 18) ?hd (cs := #[.slice none 0 0, .slice AN N.length cN, .slice AT T.length cT, .int .i64 0, .int .i64 0, .int .i64 0]) (t := 86) ?hr ?_; (case hd => rfl); (case hg => rfl); (case hr => first | (go_simp; done) | (go_simp; rfl)); intro gl hgl w4 hx4 hb4; have HL4 := Aside0.mk (LIs.new (B := w3.heap.size) hx4 (by omega)); have HB4 := Aside0.mk hb4; clear hx4 hce hfe hv0 hv1 hgl hb4)
          | (go_at_call 32; (with_reducible refine (HLAY0.out w3 A c HC3.out HB3.out gl w4 HB4.out HL4.out).mono ?_); rintro e w5 ⟨hfr, hres⟩; have hb5 := HB4.out.trans hfr.bel; have HV5 := Aside0.mk (blk_keep hb5 HV3.out (by have := HS3.out; omega)); have HE5 := Aside0.mk (blk_keep hb5 HE3.out (by have := HS3.out; omega)); have HB5 := Aside0.mk (HB3.out.trans (hb5.mono (by have := HS3.out; omega))); obtain ⟨he, hl⟩ := hres.yes HLAYE.out; subst he; have HL5 := Aside0.mk hl; obtain ⟨c1, c2, c3, c4, c5⟩ := hl.cells; have hce := (blk_cell HE5.out 0).trans rfl; have hfe := blk_frozen HE5.out 0; have hv0 := (blk_cell HV5.out 0).trans rfl; have hv1 := (blk_cell HV5.out 1).trans rfl; clear hl; clear hfr hres hb5))
    
          go_region
          all_goals go_wp2_with (go_at_call 33; refine (wbytes_calls w3.heap.size gl _ _ s _ (HL5.out.step (Lb.below_drew w5))).mono ?_; rintro e w6 ⟨rfl, rfl⟩)
          all_goals (
              refine leaves_cons (f := 31) (args := #[.pointer (some ⟨w.heap.size + 1, 0, none⟩)]) (by simp) (by simp [go_sem]) ?_
              refine (catch_idle ⟨w.heap.size + 1, 0, none⟩ _).mono ?_
              rintro e u' w'' ⟨rfl, rfl, rfl⟩
              have hce := (blk_cell HE5.out 0).trans rfl
              have hsame : (w5.setCell ⟨w.heap.size + 1, 0, none⟩ (.int .i64 0)).cell? ⟨w.heap.size + 1, 0, none⟩ = some (.int .i64 0) := by simp [World.cell?_setCell_same, hce]
              show Leaves Tryz.prog _ _ _ [] .returning _
              refine ⟨.tuple #[.string ⟨s.out.toArray⟩, .int .i64 0], by simp [results, Tryz.results15, go_sem, hsame], ?_⟩
              rw [HENC.out]
              exact ⟨rfl, bel_drew (below_set HB5.out (by show _ ≤ w.heap.size + 1; omega))⟩)
end Go.Proofs.YthamffpieafkbaaGreatDoor.Xw
