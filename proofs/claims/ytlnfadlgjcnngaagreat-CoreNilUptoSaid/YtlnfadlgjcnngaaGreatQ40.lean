/- No file system: what each function answers. (Printed by wip/tools/mk_q40.py.) -/
import Derived.Test.YtlnfadlgjcnngaaGreatQ16
namespace Go.Proofs.YtlnfadlgjcnngaaGreat.Co
open Go.RowKit Go.Maps Go.Lib Go.Proofs.YtlnfadlgjcnngaaGreat.Ap Go.Proofs.YtlnfadlgjcnngaaGreatW.PrintWords Go.Proofs.YtlnfadlgjcnngaaGreatW.PrintLast Go.Proofs.YtlnfadlgjcnngaaGreatW.PrintMore
set_option linter.unusedVariables false
set_option linter.unusedSimpArgs false

/-- any caller -/
abbrev anyC (u g : Int) (A : Option Addr) (n c : Nat) (now : Int) : Value := .agg #[.int .i64 u, .int .i64 g, .slice A n c, .int .i64 now]
abbrev anyCs (u g : Int) (A : Option Addr) (n c : Nat) (now : Int) : Array Value := #[.int .i64 u, .int .i64 g, .slice A n c, .int .i64 now]
set_option maxRecDepth 100000 in
theorem get_nil (i : Int) (w : World) : Calls Tryz.prog 38 #[.pointer none, .int .i64 i] w fun e w' => e = .returned (.tuple #[.pointer none, .int .i64 70]) ∧ w = w' := by
  go_enter Tryz.func38, Tryz.ntmps38
  go_wp2
  go_ret2
  exact ⟨rfl, rfl⟩
set_option maxRecDepth 100000 in
theorem dir_nil (u g : Int) (A : Option Addr) (n c : Nat) (now : Int) (i bits : Int) (w : World) : Calls Tryz.prog 43 #[.pointer none, anyC u g A n c now, .int .i64 i, .int .i64 bits] w fun e w' => e = .returned (.tuple #[.pointer none, .int .i64 70]) ∧ Below w.heap.size w w' := by
  have HB := Aside0.mk (Below.refl w.heap.size w)
  go_enter Tryz.func43, Tryz.ntmps43
  go_wp2_with (first
    | ((with_reducible refine gate_dst (N := 5) rfl ?_); refine Lb.alloc_event ?hg (v := fun g => .pointer (some ⟨g, 0, none⟩)) (cs := anyCs u g A n c now) (t := 29) (fr := (0, 0)) ?hr ?_; (case hg => rfl); (case hr => first | (go_simp; done) | (go_simp; rfl)); intro g5 hg5 w1 hx hb; have HX := Aside0.mk hx; replace HB := Aside0.mk (below_step HB.out hb); have e0 := (blk_cell hx 0).trans rfl; have e1 := (blk_cell hx 1).trans rfl; have e2 := (blk_cell hx 2).trans rfl; have e3 := (blk_cell hx 3).trans rfl; clear hx hb hg5)
    | (go_at_call 38; (with_reducible refine (get_nil i _).mono ?_); rintro e4 w4 ⟨rfl, rfl⟩))
  go_ret2
  exact ⟨rfl, HB.out⟩
set_option maxRecDepth 100000 in
theorem spot_nil (u g : Int) (A : Option Addr) (n c : Nat) (now : Int) (i : Int) (s : ByteArray) (w : World) : Calls Tryz.prog 31 #[.pointer none, anyC u g A n c now, .int .i64 i, .string s] w fun e w' => e = .returned (.tuple #[.pointer none, .int .i64 70]) ∧ Below w.heap.size w w' := by
  have HB := Aside0.mk (Below.refl w.heap.size w)
  go_enter Tryz.func31, Tryz.ntmps31
  go_wp2_with (first
    | ((with_reducible refine gate_dst (N := 5) rfl ?_); refine Lb.alloc_event ?hg (v := fun g => .pointer (some ⟨g, 0, none⟩)) (cs := anyCs u g A n c now) (t := 29) (fr := (0, 0)) ?hr ?_; (case hg => rfl); (case hr => first | (go_simp; done) | (go_simp; rfl)); intro g5 hg5 w1 hx hb; have HX := Aside0.mk hx; replace HB := Aside0.mk (below_step HB.out hb); have e0 := (blk_cell hx 0).trans rfl; have e1 := (blk_cell hx 1).trans rfl; have e2 := (blk_cell hx 2).trans rfl; have e3 := (blk_cell hx 3).trans rfl; clear hx hb hg5)
    | (go_at_call 43; (with_reducible refine (dir_nil u g A n c now i 3 _).mono ?_); rintro e4 w4 ⟨rfl, hb⟩; replace HB := Aside0.mk (below_step HB.out hb); clear hb))
  go_ret2
  exact ⟨rfl, HB.out⟩
set_option maxRecDepth 100000 in
theorem named_nil (u g : Int) (A : Option Addr) (n c : Nat) (now : Int) (i : Int) (s : ByteArray) (w : World) : Calls Tryz.prog 47 #[.pointer none, anyC u g A n c now, .int .i64 i, .string s] w fun e w' => e = .returned (.tuple #[.pointer none, .pointer none, .int .i64 70]) ∧ Below w.heap.size w w' := by
  have HB := Aside0.mk (Below.refl w.heap.size w)
  go_enter Tryz.func47, Tryz.ntmps47
  go_wp2_with (first
    | ((with_reducible refine gate_dst (N := 5) rfl ?_); refine Lb.alloc_event ?hg (v := fun g => .pointer (some ⟨g, 0, none⟩)) (cs := anyCs u g A n c now) (t := 29) (fr := (0, 0)) ?hr ?_; (case hg => rfl); (case hr => first | (go_simp; done) | (go_simp; rfl)); intro g5 hg5 w1 hx hb; have HX := Aside0.mk hx; replace HB := Aside0.mk (below_step HB.out hb); have e0 := (blk_cell hx 0).trans rfl; have e1 := (blk_cell hx 1).trans rfl; have e2 := (blk_cell hx 2).trans rfl; have e3 := (blk_cell hx 3).trans rfl; clear hx hb hg5)
    | (go_at_call 31; (with_reducible refine (spot_nil u g A n c now i s _).mono ?_); rintro e4 w4 ⟨rfl, hb⟩; replace HB := Aside0.mk (below_step HB.out hb); clear hb))
  go_ret3
  exact ⟨rfl, HB.out⟩
set_option maxRecDepth 100000 in
theorem lookup_nil (u g : Int) (A : Option Addr) (n c : Nat) (now : Int) (i : Int) (s : ByteArray) (w : World) : Calls Tryz.prog 17 #[.pointer none, anyC u g A n c now, .int .i64 i, .string s] w fun e w' => e = .returned (.tuple #[.int .i64 0, .int .i64 70]) ∧ Below w.heap.size w w' := by
  have HB := Aside0.mk (Below.refl w.heap.size w)
  go_enter Tryz.func17, Tryz.ntmps17
  go_wp2_with (first
    | ((with_reducible refine gate_dst (N := 5) rfl ?_); refine Lb.alloc_event ?hg (v := fun g => .pointer (some ⟨g, 0, none⟩)) (cs := anyCs u g A n c now) (t := 29) (fr := (0, 0)) ?hr ?_; (case hg => rfl); (case hr => first | (go_simp; done) | (go_simp; rfl)); intro g5 hg5 w1 hx hb; have HX := Aside0.mk hx; replace HB := Aside0.mk (below_step HB.out hb); have e0 := (blk_cell hx 0).trans rfl; have e1 := (blk_cell hx 1).trans rfl; have e2 := (blk_cell hx 2).trans rfl; have e3 := (blk_cell hx 3).trans rfl; clear hx hb hg5)
    | (go_at_call 43; (with_reducible refine (dir_nil u g A n c now i 1 _).mono ?_); rintro e4 w4 ⟨rfl, hb⟩; replace HB := Aside0.mk (below_step HB.out hb); clear hb))
  go_ret2
  exact ⟨rfl, HB.out⟩
set_option maxRecDepth 100000 in
theorem readdir_nil (u g : Int) (A : Option Addr) (n c : Nat) (now : Int) (i k l : Int) (w : World) : Calls Tryz.prog 18 #[.pointer none, anyC u g A n c now, .int .i64 i, .int .i64 k, .int .i64 l] w fun e w' => e = .returned (.tuple #[.slice none 0 0, .bool false, .int .i64 70]) ∧ Below w.heap.size w w' := by
  have HB := Aside0.mk (Below.refl w.heap.size w)
  go_enter Tryz.func18, Tryz.ntmps18
  go_wp2_with (first
    | ((with_reducible refine gate_dst (N := 6) rfl ?_); refine Lb.alloc_event ?hg (v := fun g => .pointer (some ⟨g, 0, none⟩)) (cs := anyCs u g A n c now) (t := 29) (fr := (0, 0)) ?hr ?_; (case hg => rfl); (case hr => first | (go_simp; done) | (go_simp; rfl)); intro g6 hg6 w1 hx hb; have HX := Aside0.mk hx; replace HB := Aside0.mk (below_step HB.out hb); have e0 := (blk_cell hx 0).trans rfl; have e1 := (blk_cell hx 1).trans rfl; have e2 := (blk_cell hx 2).trans rfl; have e3 := (blk_cell hx 3).trans rfl; clear hx hb hg6)
    | (go_at_call 43; (with_reducible refine (dir_nil u g A n c now i 4 _).mono ?_); rintro e4 w4 ⟨rfl, hb⟩; replace HB := Aside0.mk (below_step HB.out hb); clear hb))
  go_ret3
  exact ⟨rfl, HB.out⟩
set_option maxRecDepth 100000 in
theorem remove_nil (u g : Int) (A : Option Addr) (n c : Nat) (now : Int) (i : Int) (s : ByteArray) (w : World) : Calls Tryz.prog 19 #[.pointer none, anyC u g A n c now, .int .i64 i, .string s] w fun e w' => e = .returned (.int .i64 70) ∧ Below w.heap.size w w' := by
  have HB := Aside0.mk (Below.refl w.heap.size w)
  go_enter Tryz.func19, Tryz.ntmps19
  go_wp2_with (first
    | ((with_reducible refine gate_dst (N := 5) rfl ?_); refine Lb.alloc_event ?hg (v := fun g => .pointer (some ⟨g, 0, none⟩)) (cs := anyCs u g A n c now) (t := 29) (fr := (0, 0)) ?hr ?_; (case hg => rfl); (case hr => first | (go_simp; done) | (go_simp; rfl)); intro g5 hg5 w1 hx hb; have HX := Aside0.mk hx; replace HB := Aside0.mk (below_step HB.out hb); have e0 := (blk_cell hx 0).trans rfl; have e1 := (blk_cell hx 1).trans rfl; have e2 := (blk_cell hx 2).trans rfl; have e3 := (blk_cell hx 3).trans rfl; clear hx hb hg5)
    | (go_at_call 47; (with_reducible refine (named_nil u g A n c now i s _).mono ?_); rintro e4 w4 ⟨rfl, hb⟩; replace HB := Aside0.mk (below_step HB.out hb); clear hb))
  go_ret
  exact ⟨rfl, HB.out⟩
set_option maxRecDepth 100000 in
theorem file_nil (u g : Int) (A : Option Addr) (n c : Nat) (now : Int) (i bits : Int) (w : World) : Calls Tryz.prog 39 #[.pointer none, anyC u g A n c now, .int .i64 i, .int .i64 bits] w fun e w' => e = .returned (.tuple #[.pointer none, .int .i64 70]) ∧ Below w.heap.size w w' := by
  have HB := Aside0.mk (Below.refl w.heap.size w)
  go_enter Tryz.func39, Tryz.ntmps39
  go_wp2_with (first
    | ((with_reducible refine gate_dst (N := 5) rfl ?_); refine Lb.alloc_event ?hg (v := fun g => .pointer (some ⟨g, 0, none⟩)) (cs := anyCs u g A n c now) (t := 29) (fr := (0, 0)) ?hr ?_; (case hg => rfl); (case hr => first | (go_simp; done) | (go_simp; rfl)); intro g5 hg5 w1 hx hb; have HX := Aside0.mk hx; replace HB := Aside0.mk (below_step HB.out hb); have e0 := (blk_cell hx 0).trans rfl; have e1 := (blk_cell hx 1).trans rfl; have e2 := (blk_cell hx 2).trans rfl; have e3 := (blk_cell hx 3).trans rfl; clear hx hb hg5)
    | (go_at_call 38; (with_reducible refine (get_nil i _).mono ?_); rintro e4 w4 ⟨rfl, rfl⟩))
  go_ret2
  exact ⟨rfl, HB.out⟩
set_option maxRecDepth 100000 in
theorem write_nil (u g : Int) (A : Option Addr) (n c : Nat) (now : Int) (i k : Int) (s : ByteArray) (w : World) : Calls Tryz.prog 13 #[.pointer none, anyC u g A n c now, .int .i64 i, .int .i64 k, .string s] w fun e w' => e = .returned (.int .i64 70) ∧ Below w.heap.size w w' := by
  have HB := Aside0.mk (Below.refl w.heap.size w)
  go_enter Tryz.func13, Tryz.ntmps13
  go_wp2_with (first
    | ((with_reducible refine gate_dst (N := 6) rfl ?_); refine Lb.alloc_event ?hg (v := fun g => .pointer (some ⟨g, 0, none⟩)) (cs := anyCs u g A n c now) (t := 29) (fr := (0, 0)) ?hr ?_; (case hg => rfl); (case hr => first | (go_simp; done) | (go_simp; rfl)); intro g6 hg6 w1 hx hb; have HX := Aside0.mk hx; replace HB := Aside0.mk (below_step HB.out hb); have e0 := (blk_cell hx 0).trans rfl; have e1 := (blk_cell hx 1).trans rfl; have e2 := (blk_cell hx 2).trans rfl; have e3 := (blk_cell hx 3).trans rfl; clear hx hb hg6)
    | (go_at_call 39; (with_reducible refine (file_nil u g A n c now i 2 _).mono ?_); rintro e4 w4 ⟨rfl, hb⟩; replace HB := Aside0.mk (below_step HB.out hb); clear hb))
  go_ret
  exact ⟨rfl, HB.out⟩
set_option maxRecDepth 100000 in
theorem create_nil (u g : Int) (A : Option Addr) (n c : Nat) (now : Int) (i how : Int) (s verf : ByteArray) (hm hz : Bool) (mode size : Int) (w : World) : Calls Tryz.prog 10 #[.pointer none, anyC u g A n c now, .int .i64 i, .string s, .int .i64 how, setV hm hz mode size, .string verf] w fun e w' => e = .returned (.tuple #[.int .i64 0, .int .i64 70]) ∧ Below w.heap.size w w' := by
  have HB := Aside0.mk (Below.refl w.heap.size w)
  go_enter Tryz.func10, Tryz.ntmps10
  go_wp2_with (first
    | ((with_reducible refine gate_dst (N := 8) rfl ?_); refine Lb.alloc_event ?hg (v := fun g => .pointer (some ⟨g, 0, none⟩)) (cs := anyCs u g A n c now) (t := 29) (fr := (0, 0)) ?hr ?_; (case hg => rfl); (case hr => first | (go_simp; done) | (go_simp; rfl)); intro g8 hg8 w1 hx hb; have HX := Aside0.mk hx; replace HB := Aside0.mk (below_step HB.out hb); have e0 := (blk_cell hx 0).trans rfl; have e1 := (blk_cell hx 1).trans rfl; have e2 := (blk_cell hx 2).trans rfl; have e3 := (blk_cell hx 3).trans rfl; clear hx hb hg8)
    | ((with_reducible refine gate_dst (N := 12) rfl ?_); refine Lb.alloc_event ?hg (v := fun g => .pointer (some ⟨g, 0, none⟩)) (cs := setC hm hz mode size) (t := 36) (fr := (0, 0)) ?hr ?_; (case hg => rfl); (case hr => first | (go_simp; done) | (go_simp; rfl)); intro g12 hg12 w2 hx hb; replace HX := Aside0.mk (Lb.blk_below HX.out hb); replace HB := Aside0.mk (below_step HB.out hb); clear hx hb hg12 e0 e1 e2 e3; have e0 := (blk_cell HX.out 0).trans rfl; have e1 := (blk_cell HX.out 1).trans rfl; have e2 := (blk_cell HX.out 2).trans rfl; have e3 := (blk_cell HX.out 3).trans rfl)
    | (go_at_call 31; (with_reducible refine (spot_nil u g A n c now i s _).mono ?_); rintro e4 w4 ⟨rfl, hb⟩; replace HB := Aside0.mk (below_step HB.out hb); clear hb))
  go_ret2
  exact ⟨rfl, HB.out⟩
set_option maxRecDepth 100000 in
theorem last_nil (i : Int) (w : World) : Calls Tryz.prog 23 #[.pointer none, .int .i64 i] w fun e w' => e = .returned (.int .i64 0) ∧ w = w' := by
  go_enter Tryz.func23, Tryz.ntmps23
  go_wp2
  go_ret
  exact ⟨rfl, rfl⟩
set_option maxRecDepth 100000 in
theorem ids_nil  (w : World) : Calls Tryz.prog 21 #[.pointer none] w fun e w' => e = .returned (.slice none 0 0) ∧ w = w' := by
  go_enter Tryz.func21, Tryz.ntmps21
  go_wp2
  go_ret
  exact ⟨rfl, rfl⟩
set_option maxRecDepth 100000 in
theorem met_nil  (w : World) : Calls Tryz.prog 22 #[.pointer none] w fun e w' => e = .returned (.slice none 0 0) ∧ w = w' := by
  go_enter Tryz.func22, Tryz.ntmps22
  go_wp2
  go_ret
  exact ⟨rfl, rfl⟩
set_option maxRecDepth 100000 in
theorem fclone_nil  (w : World) : Calls Tryz.prog 20 #[.pointer none] w fun e w' => e = .returned (.pointer none) ∧ w = w' := by
  go_enter Tryz.func20, Tryz.ntmps20
  go_wp2
  go_ret
  exact ⟨rfl, rfl⟩
set_option maxRecDepth 100000 in
theorem load_nil (nd : Nd) (k : Option Addr) (hk : nd.names = .pointer k) (w : World) : Calls Tryz.prog 16 #[.pointer none, .agg (ndC nd)] w fun e w' => e = .returned (.tuple #[]) ∧ Below w.heap.size w w' := by
  go_enter Tryz.func16, Tryz.ntmps16
  go_wp2_with (first
    | ((with_reducible refine gate_dst (N := 3) rfl ?_); refine box_event ?hg (N := 3) ?hd (cs := ndC nd) (t := 43) ?hr ?_; (case hd => rfl); (case hg => rfl); (case hr => first | (go_simp; done) | (go_simp; rfl)); intro g3 hg3 w3 hx hb; have HB := Aside0.mk hb; clear hx hb hg3))
  go_end0
  exact ⟨rfl, HB.out⟩
set_option maxRecDepth 100000 in
theorem node_nil (i : Int) (w : World) : Calls Tryz.prog 11 #[.pointer none, .int .i64 i] w fun e w' => e = .returned (.tuple #[.agg (ndC nd0), .bool false]) ∧ Below w.heap.size w w' := by
  go_enter Tryz.func11, Tryz.ntmps11
  go_wp2_with (first
    | ((with_reducible refine gate_dst (N := 4) rfl ?_); refine box_event ?hg (N := 4) ?hd (cs := ndC nd0) (t := 43) ?hr ?_; (case hd => rfl); (case hg => rfl); (case hr => first | (go_simp; done) | (go_simp; rfl)); intro g4 hg4 w4 hx hb; have HX := Aside0.mk hx; have HB := Aside0.mk hb; have HG : Aside0 (w.heap.size ≤ g4) := ⟨by rw [hg4]; exact Nat.le_refl _⟩; clear hx hb hg4)
    | ((with_reducible refine gate_store (t := 43) (p := 4) rfl ?_); refine Lb.store_whole rfl rfl 43 (.tmp 4) (.tmp 18) rfl (new := ndC nd0) rfl rfl HX.out rfl (by kernel_rfl) (ndC_one _ none rfl) ?_; intro w5 hb5 hg5; replace HB := Aside0.mk (Lb.grown_below HB.out hg5 HB.out.size HG.out); replace HX := Aside0.mk hb5; clear hb5 hg5))
  refine bodyPost_ret (results_cell_tmp rfl _ _ g4 43 (ndC nd0) (0, 0) _ rfl HX.out Tryz.underlying43 rfl (by kernel_rfl)) rfl ?_
  exact ⟨rfl, HB.out⟩
end Go.Proofs.YtlnfadlgjcnngaaGreat.Co
