/- schema.parse of a form that is one: what it hands back; nothing is thrown. -/
import Derived.Test.YthamffpieafkbaaGreatDoorSf
import Derived.Tactics2
import Derived.Defers
import Derived.Recover
import Derived.Laws.Pointers
namespace Go.Proofs.YthamffpieafkbaaGreatDoor.PA
open Go.RowKit Go.Proofs.YthamffpieafkbaaGreatDoorW.PrintWords Go.Proofs.YthamffpieafkbaaGreatDoorW.PrintLast Go.Proofs.YthamffpieafkbaaGreatDoorW.PrintMore
set_option linter.unusedVariables false
set_option linter.unusedSimpArgs false

theorem catch_idle (p : Addr) (w : World) :
    CallsD Tryz.prog 31 #[.pointer (some p)] .returning w fun e u' w' => e = .returned (.tuple #[]) ∧ u' = .returning ∧ w' = w := by
  refine callsD_of_wpS Tryz.func31 rfl fun c₀ cs hu => ?_
  apply wpS_seq
  apply wpS_region
  simp [wpOpsS, go_sem, recoverD, hu, Tryz.ntmps31, Exit.thenS]
  apply wpS_seq
  apply wpS_region
  simp [wpOpsS, go_sem, Exit.thenS]
  refine wpS_cond (t := false) (by simp [Act.eval, Array.replicate]) ?_
  simp only [Bool.false_eq_true, if_false]
  refine wpS_of_wp (wp_skip ?_)
  cases c₀
  simp_all [bodyPostS, results, Tryz.results31]

def schema_parse.f (k : Nat) (l0 : ByteArray) : Option (List S117 × Int) := if l0.size ≤ 1000 then (schema_parser_form.f k l0 0 0).bind fun r => if r.2.2 < (l0.size : Int) then none else some (r.1, 0) else none
theorem schema_parse.mono : ∀ a0 k, LeO (schema_parse.f k a0) (schema_parse.f (k + 1) a0) := by
  intro a0 k
  unfold schema_parse.f
  refine LeO.ite ?_ (LeO.refl _)
  exact LeO.bind (schema_parser_form.mono _ _ _ _) (fun _ => LeO.refl _)

theorem schema_parse.calls (k : Nat) (l0 : ByteArray) (r1 : List S117) (r2 : Int) (w : World) (h : schema_parse.f k l0 = some (r1, r2)) :
    Calls Tryz.prog 30 #[.string l0] w fun e w' => ∃ v0_ : Value, e = .returned (.tuple #[v0_, .int .i64 r2]) ∧ Kd.N k117 117 w' w.heap.size (fun k_ => (w.heap.size ≤ k_)) v0_ r1 ∧ Below w.heap.size w w' := by
  unfold schema_parse.f at h
  by_cases hs : l0.size ≤ 1000
  · rw [if_pos hs] at h
    obtain ⟨⟨s, t, n⟩, hf, h⟩ := Option.bind_eq_some_iff.mp h
    by_cases hn : n < (l0.size : Int)
    · rw [if_pos hn] at h; cases h
    · rw [if_neg hn] at h
      injection h with h
      injection h with h1 h2
      subst h1 h2
      have hs' : decide ((l0.size : Int) > 1000) = false := by simp; omega
      have HF := Aside0.mk hf
      clear hf
      have hb0 : Below w.heap.size w (w.alloc (.cells #[.int .i64 0] 51)) := below_alloc (Below.refl _ _) _
      have hsz : (w.alloc (.cells #[.int .i64 0] 51)).heap.size = w.heap.size + 1 := by simp
      have hI := Aside0.mk (IsS111.new w (w.alloc (.cells #[.int .i64 0] 51)) l0 0 hb0)
      have hb1 := Aside0.mk (below_alloc hb0 (.cells #[.string l0, .int .i64 0] 111))
      have he0 : ((w.alloc (.cells #[.int .i64 0] 51)).alloc (.cells #[.string l0, .int .i64 0] 111)).heap[w.heap.size]? = some (.cells #[.int .i64 0] 51 (0, 0)) := blk_alloc (by simpa using heap_alloc_new w (.cells #[.int .i64 0] 51)) _
      have HE := Aside0.mk he0
      clear hb0 he0
      go_enter_defers Tryz.func30, Tryz.ntmps30
      have hn' : decide (n < (l0.size : Int)) = false := decide_eq_false hn
      rw [hsz] at hI
      go_wp2_with (first | (go_at_call 47; refine (schema_parser_form.calls k (w.heap.size + 1) l0 0 0 s t n w _ hI.out hb1.out HF.out).mono ?_; rintro e w5 ⟨v0, rfl, ho, hi, hb, hk⟩; obtain ⟨HG, hg⟩ := hi; have hc0 := cellS111_0 HG; have hc1 := cellS111_1 HG; have HE5 := KeepBut.blk hk HE.out (by omega) (by simp); have hce := (blk_cell HE5 0).trans rfl; have hfe := blk_frozen HE5 0; have HO := Aside0.mk ho; have HB := Aside0.mk hb; have HK := Aside0.mk hk; clear ho hb hk HG HE5))
      refine leaves_cons (f := 31) (args := #[.pointer (some ⟨w.heap.size, 0, none⟩)]) (by simp) (by simp [go_sem]) ?_
      refine (catch_idle ⟨w.heap.size, 0, none⟩ _).mono ?_
      rintro e u' w'' ⟨rfl, rfl, rfl⟩
      have hsame : (w5.setCell { block := w.heap.size, off := 0 } (Value.int IntKind.i64 0)).cell? { block := w.heap.size, off := 0 } = some (Value.int IntKind.i64 0) := by
        simp [World.cell?_setCell_same, hce]
      simp only [Leaves, settle, results, Tryz.results30]
      simp [go_sem, hsame]
      have hsz2 : ((w.alloc (.cells #[.int .i64 0] 51)).alloc (.cells #[.string l0, .int .i64 0] 111)).heap.size = w.heap.size + 2 := by simp
      have HO2 := HO.out
      rw [hsz2] at HO2
      refine ⟨Kd.N_lower (Kd.N_mono (Kd.N_far (p := ⟨w.heap.size, 0, none⟩) HO2 (fun k_ hk_ => by show k_ ≠ w.heap.size; omega) _) (fun k_ hk_ => by omega)) (by omega), below_set HB.out (Nat.le_refl _)⟩
  · rw [if_neg hs] at h; cases h
end Go.Proofs.YthamffpieafkbaaGreatDoor.PA
