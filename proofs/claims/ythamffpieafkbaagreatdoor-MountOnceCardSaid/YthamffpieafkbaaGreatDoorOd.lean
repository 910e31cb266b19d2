/- sync.Once.Do of what is not done yet, one goroutine: the function is called once, behind the lock; the cells of the Once are told. -/
import Derived.Test.YthamffpieafkbaaGreatDoorOn
import Derived.Test.YthamffpieafkbaaGreatDoorWLast
namespace Go.Proofs.YthamffpieafkbaaGreatDoor.PA

set_option maxRecDepth 100000 in
set_option maxHeartbeats 1600000 in
theorem slow_any (b off : Nat) (F : FuncId) (fn : Func) (first : Array Value) (hF : Tryz.prog.funcs[F]? = some fn) (hname : (fn.name == "runtime.NumGoroutine") = false) (hbody : fn.body.isSome = true) (Q : World → Prop) (w : World)
    (h0 : w.cell? ⟨b, off, none⟩ = some (.int .u32 0)) (h1 : w.cell? ⟨b, off + 1, none⟩ = some (.int .i32 0))
    (f1 : w.frozen? ⟨b, off + 1, none⟩ = false)
    (hcb : Calls Tryz.prog F first (w.setCell ⟨b, off + 1, none⟩ (.int .i32 1)) fun e w' => e = .returned (.tuple #[]) ∧ Q w')
    (hQ0 : ∀ w', Q w' → w'.cell? ⟨b, off, none⟩ = some (.int .u32 0) ∧ w'.cell? ⟨b, off + 1, none⟩ = some (.int .i32 1) ∧ w'.frozen? ⟨b, off, none⟩ = false ∧ w'.frozen? ⟨b, off + 1, none⟩ = false) :
    Calls Tryz.prog 85 #[.pointer (some ⟨b, off, none⟩), .func (.func F) first #[]] w fun e w' => e = .returned (.tuple #[]) ∧
      ∃ w2, Q w2 ∧ w' = (w2.drew.setCell ⟨b, off, none⟩ (.int .u32 1)).setCell ⟨b, off + 1, none⟩ (.int .i32 0) := by
  have hl := run_call_load (P := Tryz.prog) Tryz.func93 (by kernel_rfl) (by kernel_rfl) (by kernel_rfl) .u32 (by kernel_rfl) (w := w.setCell ⟨b, off + 1, none⟩ (.int .i32 1)) (a := ⟨b, off, none⟩) (x := 0) ((World.cell?_setCell_other _ ⟨b, off + 1, none⟩ ⟨b, off, none⟩ _ (by simp)).trans h0)
  have ent : ∀ (args : Array Value) (w : World), (callFunc F args).run Tryz.prog w = .ok (.enter F args) w := fun args w => Go.Proofs.YthamffpieafkbaaGreatDoorW.PrintLast.enters_ hF hname hbody args w
  have hnot : ∀ (x : Bool) (w : World), (Op.unary .not (.bool x)).run Tryz.prog w = .ok (.bool (!x)) w := fun _ _ => rfl
  go_enter_defers Tryz.func85, Tryz.ntmps85
  go_wp2_with (first | (go_at_call 94; refine (lock_free ⟨b, off + 1, none⟩ _ (by go_simp) (by go_simp)).mono ?_; rintro e w' ⟨rfl, rfl⟩) | (go_at_call 84; go_in))
  refine hcb.mono ?_
  rintro e w2 ⟨rfl, hq⟩
  obtain ⟨q0, q1, qf0, qf1⟩ := hQ0 w2 hq
  go_wp2
  refine leaves_cons (f := 96) (args := #[.pointer (some ⟨b, off, none⟩), .bool true]) (by simp) (by simp [go_sem]) ?_
  refine (store_deferred ⟨b, off, none⟩ (.int .u32 0) .returning _ q0 qf0).mono ?_
  rintro e u' w'' ⟨rfl, rfl, rfl⟩
  refine leaves_cons (f := 95) (args := #[.pointer (some ⟨b, off + 1, none⟩)]) (by simp [settle]) (by simp [go_sem]) ?_
  refine (unlock_deferred ⟨b, off + 1, none⟩ _ _ ?_ (by simp [qf1])).mono ?_
  · refine (World.cell?_setCell_other _ ⟨b, off, none⟩ ⟨b, off + 1, none⟩ _ (by simp)).trans ?_
    rw [World.cell?_drew]
    exact q1
  rintro e u' w'' ⟨rfl, rfl, rfl⟩
  have hres : ∃ w3, Q w3 ∧ (w2.drew.setCell ⟨b, off, none⟩ (.int .u32 1)).setCell ⟨b, off + 1, none⟩ (.int .i32 0) = (w3.drew.setCell ⟨b, off, none⟩ (.int .u32 1)).setCell ⟨b, off + 1, none⟩ (.int .i32 0) := ⟨w2, hq, rfl⟩
  simp only [Leaves, settle, results, Tryz.results85]
  first | exact ⟨_, rfl, rfl, hres⟩ | (simp; exact hres)

set_option maxRecDepth 100000 in
set_option maxHeartbeats 1600000 in
/-- '(*sync.Once).Do', not yet done, the lock free. -/
theorem do_first (b off : Nat) (F : FuncId) (fn : Func) (first : Array Value) (hF : Tryz.prog.funcs[F]? = some fn) (hname : (fn.name == "runtime.NumGoroutine") = false) (hbody : fn.body.isSome = true) (Q : World → Prop) (w : World)
    (h0 : w.cell? ⟨b, off, none⟩ = some (.int .u32 0)) (h1 : w.cell? ⟨b, off + 1, none⟩ = some (.int .i32 0))
    (f1 : w.frozen? ⟨b, off + 1, none⟩ = false)
    (hcb : Calls Tryz.prog F first (w.setCell ⟨b, off + 1, none⟩ (.int .i32 1)) fun e w' => e = .returned (.tuple #[]) ∧ Q w')
    (hQ0 : ∀ w', Q w' → w'.cell? ⟨b, off, none⟩ = some (.int .u32 0) ∧ w'.cell? ⟨b, off + 1, none⟩ = some (.int .i32 1) ∧ w'.frozen? ⟨b, off, none⟩ = false ∧ w'.frozen? ⟨b, off + 1, none⟩ = false) :
    Calls Tryz.prog 69 #[.pointer (some ⟨b, off, none⟩), .func (.func F) first #[]] w fun e w' => e = .returned (.tuple #[]) ∧
      ∃ w2, Q w2 ∧ w' = (w2.drew.setCell ⟨b, off, none⟩ (.int .u32 1)).setCell ⟨b, off + 1, none⟩ (.int .i32 0) := by
  have hl := run_call_load (P := Tryz.prog) Tryz.func93 (by kernel_rfl) (by kernel_rfl) (by kernel_rfl) .u32 (by kernel_rfl) h0
  have hnot : ∀ (x : Bool) (w : World), (Op.unary .not (.bool x)).run Tryz.prog w = .ok (.bool (!x)) w := fun _ _ => rfl
  go_enter Tryz.func69, Tryz.ntmps69
  go_wp2_with (first | (go_at_call 85; refine (slow_any b off F fn first hF hname hbody Q w h0 h1 f1 hcb hQ0).mono ?_; rintro e w' ⟨rfl, hq⟩) | (go_at_call 84; go_in))
  go_end0
  exact ⟨rfl, hq⟩
end Go.Proofs.YthamffpieafkbaaGreatDoor.PA
