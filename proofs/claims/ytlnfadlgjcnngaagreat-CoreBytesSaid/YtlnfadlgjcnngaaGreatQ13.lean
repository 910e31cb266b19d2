/- Clone of a directory; FS.Node. -/
import Derived.Test.YtlnfadlgjcnngaaGreatQ12
namespace Go.Proofs.YtlnfadlgjcnngaaGreat.Co
open Go.RowKit Go.Maps Go.Lib Go.Proofs.YtlnfadlgjcnngaaGreat.Ap Go.Proofs.YtlnfadlgjcnngaaGreatW.PrintWords Go.Proofs.YtlnfadlgjcnngaaGreatW.PrintLast Go.Proofs.YtlnfadlgjcnngaaGreatW.PrintMore
set_option linter.unusedVariables false
set_option linter.unusedSimpArgs false

structure DX (w : World) (d kn : Nat) (nK nV : Value) (kc : Nat) (cK cV : Value) (s : ByteArray) (id : Int) : Prop where
  h1 : w.heap[d]? = some (.cells #[.pointer (some ⟨kn, 0, none⟩), .int .i64 1, .pointer (some ⟨kc, 0, none⟩), .int .i64 1, .int .i64 3] 103 (0, 0))
  h2 : w.heap[kn]? = some (.cells #[nK, nV, .slice none 0 0] 219 (0, 0))
  h3 : w.ownsRow 0 9 1 nK 1 [.string s]
  h4 : w.ownsRow 0 108 3 nV 1 [.string s, .int .i64 id, .int .i64 3]
  h5 : w.heap[kc]? = some (.cells #[cK, cV, .slice none 0 0] 231 (0, 0))
  h6 : w.ownsRow 0 3 1 cK 1 [.int .i64 3]
  h7 : w.ownsRow 0 9 1 cV 1 [.string s]
theorem DX.step {w w' : World} {d kn kc : Nat} {nK nV cK cV : Value} {s : ByteArray} {id : Int} (h : DX w d kn nK nV kc cK cV s id) (hb : Below w.heap.size w w') : DX w' d kn nK nV kc cK cV s id :=
  ⟨Lb.blk_below h.h1 hb, Lb.blk_below h.h2 hb, own_step h.h3 hb, own_step h.h4 hb, Lb.blk_below h.h5 hb, own_step h.h6 hb, own_step h.h7 hb⟩
theorem DX.cells {w : World} {d kn kc : Nat} {nK nV cK cV : Value} {s : ByteArray} {id : Int} (h : DX w d kn nK nV kc cK cV s id) :
    w.cell? ⟨d, 0, none⟩ = some (.pointer (some ⟨kn, 0, none⟩)) ∧ w.cell? ⟨d, 1, none⟩ = some (.int .i64 1) ∧ w.cell? ⟨d, 2, none⟩ = some (.pointer (some ⟨kc, 0, none⟩)) ∧ w.cell? ⟨d, 3, none⟩ = some (.int .i64 1) ∧ w.cell? ⟨d, 4, none⟩ = some (.int .i64 3) :=
  ⟨(blk_cell h.h1 0).trans rfl, (blk_cell h.h1 1).trans rfl, (blk_cell h.h1 2).trans rfl, (blk_cell h.h1 3).trans rfl, (blk_cell h.h1 4).trans rfl⟩

theorem dclone_nil (w : World) : Calls Tryz.prog 37 #[.pointer none] w fun e w' => e = .returned (.pointer none) ∧ w' = w := by
  go_enter Tryz.func37, Tryz.ntmps37
  go_wp2_with fail
  go_ret
  exact ⟨rfl, rfl⟩
set_option maxRecDepth 100000 in
theorem dclone_one (d : Nat) (s : ByteArray) (id : Int) (w : World) (h : DirO w d s id) :
    Calls Tryz.prog 37 #[.pointer (some ⟨d, 0, none⟩)] w fun e w' => ∃ k, e = .returned (.pointer (some ⟨k, 0, none⟩)) ∧ Below w.heap.size w w' := by
  obtain ⟨kn, nK, nV, kc, cK, cV, h1, h2, h3, h4, h5, h6, h7⟩ := h.ex
  have HD := Aside0.mk ((DX.mk h1 h2 h3 h4 h5 h6 h7).step (Lb.below_drew w))
  have HB := Aside0.mk (Lb.below_drew w)
  clear h h1 h2 h3 h4 h5 h6 h7
  go_enter Tryz.func37, Tryz.ntmps37
  go_wp2
  obtain ⟨c0, c1, c2, c3, c4⟩ := HD.out.cells
  go_region_held3 (fun w' => w'.cell? ⟨d, 0, none⟩ = some (.pointer (some ⟨kn, 0, none⟩)) ∧ w'.cell? ⟨d, 1, none⟩ = some (.int .i64 1) ∧ w'.cell? ⟨d, 2, none⟩ = some (.pointer (some ⟨kc, 0, none⟩)) ∧ w'.cell? ⟨d, 3, none⟩ = some (.int .i64 1) ∧ w'.cell? ⟨d, 4, none⟩ = some (.int .i64 3)) (first | exact HD.out.cells | exact (HD.out.step (below_alloc (Below.refl _ _) _)).cells) (first
    | (go_at_call 85; (with_reducible refine (twin_nam kn nK nV [.string s] [.string s, .int .i64 id, .int .i64 3] _ HD.out.h2 HD.out.h3 HD.out.h4 (by simp [Value.oneCell']) (by simp [Value.oneCell'])).mono ?_); rintro e4 w4 ⟨k4, rfl, hb⟩; replace HB := Aside0.mk (below_step HB.out hb); replace HD := Aside0.mk (HD.out.step hb); clear hb)
    | (go_at_call 86; (with_reducible refine (twin_coo kc cK cV [.int .i64 3] [.string s] _ HD.out.h5 HD.out.h6 HD.out.h7 (by simp [Value.oneCell']) (by simp [Value.oneCell'])).mono ?_); rintro e5 w5 ⟨k5, rfl, hb⟩; replace HB := Aside0.mk (below_step HB.out hb); replace HD := Aside0.mk (HD.out.step hb); clear hb))
  all_goals go_wp2_with fail
  all_goals go_ret
  all_goals exact ⟨_, rfl, below_alloc HB.out _⟩
end Go.Proofs.YtlnfadlgjcnngaaGreat.Co
