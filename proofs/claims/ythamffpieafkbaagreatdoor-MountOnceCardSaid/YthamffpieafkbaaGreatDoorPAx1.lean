-- printed by a program of this session (wip/tools), over the translation
import Derived.Test.YthamffpieafkbaaGreatDoorPAx0
namespace Go.Proofs.YthamffpieafkbaaGreatDoor.PA
open Go.RowKit Go.Proofs.YthamffpieafkbaaGreatDoorW.PrintWords Go.Proofs.YthamffpieafkbaaGreatDoorW.PrintLast Go.Proofs.YthamffpieafkbaaGreatDoorW.PrintMore
attribute [local go_sem] max2_int min2_int max_two min_two max_three min_three max_four min_four   -- for this text's walks alone
set_option linter.unusedVariables false
set_option linter.unusedSimpArgs false

/-- A state of type 111 at block g of W; what its slices lead to came in by w0. -/
def IsS111 (w0 W : World) (g : Nat) (f0 : ByteArray) (f1 : Int) : Prop := W.heap[g]? = some (.cells #[.string f0, .int .i64 f1] 111 (0, 0)) ∧ w0.heap.size ≤ g
theorem IsS111.grown {w0 W : World} {g : Nat} {f0 : ByteArray} {f1 : Int} {W1 : World} {row : Option Nat} (h : IsS111 w0 W g f0 f1) (hw : W.grownBy W1 row) (hne : some g ≠ row) : IsS111 w0 W1 g f0 f1 := by
  obtain ⟨hb, hg⟩ := h
  exact ⟨blk_grown hb hw hne, hg⟩
theorem IsS111.own_neN {w0 W : World} {g : Nat} {f0 : ByteArray} {f1 : Int} {α : Type} {d : Kd α} {e : Nat} {base : Nat} {ok : Nat → Prop} {v : Value} {xs : List α} (h : IsS111 w0 W g f0 f1) (ho : Kd.N d e W base ok v xs) (ht : e ≠ 111) : some g ≠ v.ownBlock := by
  obtain ⟨hb, hg⟩ := h
  exact Kd.N_ne ho hb ht
theorem IsS111.fresh {w0 W : World} {g : Nat} {f0 : ByteArray} {f1 : Int} (h : IsS111 w0 W g f0 f1) : ∀ k, W.heap.size ≤ k → k ≠ g := by
  obtain ⟨hb, hg⟩ := h
  exact Kd.freshB hb
theorem IsS111.kept {w0 W : World} {g : Nat} {f0 : ByteArray} {f1 : Int} {W1 : World} {S : Nat → Prop} (h : IsS111 w0 W g f0 f1) (hk : Kept W W1 S) (hne : ¬ S g) : IsS111 w0 W1 g f0 f1 := by
  obtain ⟨hb, hg⟩ := h
  exact ⟨blk_kept hb hk hne, hg⟩
theorem IsS111.below {w0 W : World} {g : Nat} {f0 : ByteArray} {f1 : Int} {W1 : World} (h : IsS111 w0 W g f0 f1) (hw : Below W.heap.size W W1) : IsS111 w0 W1 g f0 f1 := h.grown (grown_of_below hw none) (by simp)
theorem IsS111.alloc {w0 W : World} {g : Nat} {f0 : ByteArray} {f1 : Int} (h : IsS111 w0 W g f0 f1) (o : Obj) : IsS111 w0 (W.alloc o) g f0 f1 := h.below (below_alloc (Below.refl _ _) o)
theorem IsS111.drewN {w0 W : World} {g : Nat} {f0 : ByteArray} {f1 : Int} (h : IsS111 w0 W g f0 f1) (m : Nat) : IsS111 w0 (W.drewN m) g f0 f1 := h
theorem IsS111.drew {w0 W : World} {g : Nat} {f0 : ByteArray} {f1 : Int} (h : IsS111 w0 W g f0 f1) : IsS111 w0 W.drew g f0 f1 := h
theorem IsS111.at_ {w0 W : World} {g : Nat} {f0 : ByteArray} {f1 : Int} {w' : World} {m : Nat} (hq : W.drewN m = w') (h : IsS111 w0 W g f0 f1) : IsS111 w0 w' g f0 f1 := by subst hq; exact IsS111.drewN h m
theorem IsS111.apart {w0 W : World} {g : Nat} {f0 : ByteArray} {f1 : Int} {α : Type} {d : Kd α} {e : Nat} {base : Nat} {ok : Nat → Prop} {v : Value} {xs : List α} (h : IsS111 w0 W g f0 f1) (ho : d.R e W base ok v xs) (ht : ∀ q, q ∈ e :: d.E → q ≠ 111) : d.R e W base (fun k => ok k ∧ k ≠ g) v xs := by
  obtain ⟨hb, hg⟩ := h
  exact Kd.R_types ho hb ht
theorem IsS111.own_ne {w0 W : World} {g : Nat} {f0 : ByteArray} {f1 : Int} {α : Type} {d : Kd α} {e : Nat} {base : Nat} {ok : Nat → Prop} {v : Value} {xs : List α} (h : IsS111 w0 W g f0 f1) (ho : d.R e W base ok v xs) (ht : e ≠ 111) : some g ≠ v.ownBlock := by
  obtain ⟨hb, hg⟩ := h
  exact Kd.R_ne ho hb ht
theorem IsS111.apartQ {w0 W : World} {g : Nat} {f0 : ByteArray} {f1 : Int} {α : Type} {d : Kd α} {e : Nat} {base : Nat} {ok : Nat → Prop} {v : Value} {xs : List α} (h : IsS111 w0 W g f0 f1) (ho : d.Q e W base ok v xs) (ht : ∀ q, q ∈ e :: d.E → q ≠ 111) : d.Q e W base (fun k => ok k ∧ k ≠ g) v xs := by
  obtain ⟨hb, hg⟩ := h
  exact Kd.Q_types ho hb ht
theorem IsS111.own_neQ {w0 W : World} {g : Nat} {f0 : ByteArray} {f1 : Int} {α : Type} {d : Kd α} {e : Nat} {base : Nat} {ok : Nat → Prop} {v : Value} {xs : List α} (h : IsS111 w0 W g f0 f1) (ho : d.Q e W base ok v xs) (ht : e ≠ 111) : some g ≠ v.ownBlock := by
  obtain ⟨hb, hg⟩ := h
  exact Kd.Q_ne ho hb ht
theorem IsS111.apartS {w0 W : World} {g : Nat} {f0 : ByteArray} {f1 : Int} {α : Type} {d : Kd α} {e : Nat} {base : Nat} {ok : Nat → Prop} {v : Value} {xs : List α} (h : IsS111 w0 W g f0 f1) (ho : d.S e W base ok v xs) (ht : ∀ q, q ∈ e :: d.E → q ≠ 111) : d.S e W base (fun k => ok k ∧ k ≠ g) v xs := by
  obtain ⟨hb, hg⟩ := h
  exact Kd.S_types ho hb ht
theorem IsS111.own_neS {w0 W : World} {g : Nat} {f0 : ByteArray} {f1 : Int} {α : Type} {d : Kd α} {e : Nat} {base : Nat} {ok : Nat → Prop} {v : Value} {xs : List α} (h : IsS111 w0 W g f0 f1) (ho : d.S e W base ok v xs) (ht : e ≠ 111) : some g ≠ v.ownBlock := by
  obtain ⟨hb, hg⟩ := h
  exact Kd.S_ne ho hb ht
theorem IsS111.lt {w0 W : World} {g : Nat} {f0 : ByteArray} {f1 : Int} (h : IsS111 w0 W g f0 f1) : g < W.heap.size := by
  obtain ⟨hb, hg⟩ := h
  exact blk_lt hb
theorem IsS111.ge {w0 W : World} {g : Nat} {f0 : ByteArray} {f1 : Int} (h : IsS111 w0 W g f0 f1) : w0.heap.size ≤ g := by
  obtain ⟨hb, hg⟩ := h
  exact hg
theorem IsS111.ne_blk {w0 W : World} {g : Nat} {f0 : ByteArray} {f1 : Int} {a : Nat} {cs : Array Value} {t : TypeId} {fr : Nat × Nat} (h : IsS111 w0 W g f0 f1) (hb2 : W.heap[a]? = some (.cells cs t fr)) (ht : t ≠ 111) : g ≠ a := by
  obtain ⟨hb, hg⟩ := h
  rintro rfl
  rw [hb] at hb2
  injection hb2 with hb2
  injection hb2 with _ ht2
  exact ht ht2.symm
theorem IsS111.far {w0 W : World} {g : Nat} {f0 : ByteArray} {f1 : Int} {p : Addr} (h : IsS111 w0 W g f0 f1) (hne : g ≠ p.block) (u : Value) : IsS111 w0 (W.setCell p u) g f0 f1 := by
  obtain ⟨hb, hg⟩ := h
  exact ⟨blk_far hb hne u, hg⟩
theorem cellS111_0 {W : World} {g : Nat} {f0 : ByteArray} {f1 : Int} (h : W.heap[g]? = some (.cells #[.string f0, .int .i64 f1] 111 (0, 0))) : W.cell? ⟨g, 0, none⟩ = some (.string f0) := (blk_cell h 0).trans rfl
theorem IsS111.set_0 {w0 W : World} {g : Nat} {f0 : ByteArray} {f1 : Int} (h : IsS111 w0 W g f0 f1) (x : ByteArray) : IsS111 w0 (W.setCell ⟨g, 0, none⟩ (.string x)) g x f1 := by
  obtain ⟨hb, hg⟩ := h
  exact ⟨by simpa using blk_set hb 0 (.string x), hg⟩
theorem cellS111_1 {W : World} {g : Nat} {f0 : ByteArray} {f1 : Int} (h : W.heap[g]? = some (.cells #[.string f0, .int .i64 f1] 111 (0, 0))) : W.cell? ⟨g, 1, none⟩ = some (.int .i64 f1) := (blk_cell h 1).trans rfl
theorem IsS111.set_1 {w0 W : World} {g : Nat} {f0 : ByteArray} {f1 : Int} (h : IsS111 w0 W g f0 f1) (x : Int) : IsS111 w0 (W.setCell ⟨g, 1, none⟩ (.int .i64 x)) g f0 x := by
  obtain ⟨hb, hg⟩ := h
  exact ⟨by simpa using blk_set hb 1 (.int .i64 x), hg⟩
theorem IsS111.new (w0 W : World) (f0 : ByteArray) (f1 : Int) (hB : Below w0.heap.size w0 W) : IsS111 w0 (W.alloc (.cells #[.string f0, .int .i64 f1] 111)) W.heap.size f0 f1 := ⟨by simpa using heap_alloc_new W _, hB.size⟩

/-! ### schema_parser_peek: function 71 -/
def schema_parser_peek.f (s0_0 : ByteArray) (s0_1 : Int) : Option (Int × ByteArray × Int) := if s0_1 < (s0_0.size : Int) then (if 0 ≤ s0_1 then (some (bt s0_0 s0_1, s0_0, s0_1)) else (none)) else (some (0, s0_0, s0_1))
set_option maxHeartbeats 8000000 in
set_option maxRecDepth 100000 in
theorem schema_parser_peek.calls (g : Nat) (s0_0 : ByteArray) (s0_1 : Int) (r1 : Int) (r2 : ByteArray) (r3 : Int) (w0 w : World) (hI : IsS111 w0 w g s0_0 s0_1) (hB : Below w0.heap.size w0 w) (h : schema_parser_peek.f s0_0 s0_1 = some (r1, r2, r3)) :
    Calls Tryz.prog 71 #[.pointer (some ⟨g, 0, none⟩)] w fun e w' => e = .returned (.int .u8 r1) ∧ IsS111 w0 w' g r2 r3 ∧ Below w0.heap.size w0 w' ∧ KeepBut w w' g none := by
  have HI0 := Aside0.mk hI
  have HK := Aside0.mk (KeepBut.refl w g none)
  have HL := Aside0.mk hB.size
  clear hI
  have HW0 := Aside0.mk hB.size
  have HB := Aside0.mk hB
  clear hB
  have H : (if s0_1 < (s0_0.size : Int) then (if 0 ≤ s0_1 then (some (bt s0_0 s0_1, s0_0, s0_1)) else (none)) else (some (0, s0_0, s0_1))) = some (r1, r2, r3) := h
  clear h
  by_cases c2 : s0_1 < (s0_0.size : Int)
  · rw [if_pos c2] at H
    have c2b0 : decide (s0_1 < (s0_0.size : Int)) = true := decide_eq_true c2
    clear c2
    by_cases c3 : 0 ≤ s0_1
    · rw [if_pos c3] at H
      have c3b0 : decide (0 ≤ s0_1) = true := decide_eq_true c3
      clear c3
      simp only [Option.some.injEq, Prod.mk.injEq] at H
      obtain ⟨rfl, rfl, rfl⟩ := H
      obtain ⟨HGz5, hgz5⟩ := HI0.out
      have hcz5_0 := cellS111_0 HGz5
      have hcz5_1 := cellS111_1 HGz5
      have hfz5_0 := blk_frozen HGz5 0
      have hfz5_1 := blk_frozen HGz5 1
      clear HGz5 hgz5
      have p4 : 0 ≤ (s0_1 : Int) := of_decide_eq_true (by first | (with_reducible assumption) | assumption)
      have q4 : s0_1 < (s0_0.size : Int) := of_decide_eq_true (by first | (with_reducible assumption) | assumption)
      have hx4 := bt_at s0_0 s0_1
      replace p4 := eq_true p4
      replace q4 := eq_true q4
      go_enter Tryz.func71, Tryz.ntmps71
      go_wp2
      repeat (go_quiet (fail); try go_wp2)
      go_ret
      exact ⟨by first | rfl | (simp [errW_none, errW_some] <;> rfl) | (simp [*, errW_none, errW_some] <;> rfl), by repeat (first | (with_reducible first | exact HI0.out | apply IsS111.alloc | apply IsS111.drewN | apply IsS111.drew | apply IsS111.set_0 | apply IsS111.set_1) | exact HI0.out), by repeat (first | (with_reducible first | exact HB.out | apply below_alloc | apply pw_below_drewN | apply below_drew1 | refine below_set ?_ (IsS111.ge HI0.out)) | exact HB.out), by repeat (first | (with_reducible first | exact HK.out | apply KeepBut.set_ | apply keep_drewN | apply keep_drew | apply keep_alloc) | exact HK.out)⟩
    · rw [if_neg c3] at H
      exact absurd H (by simp)
  · rw [if_neg c2] at H
    have c2b0 : decide (s0_1 < (s0_0.size : Int)) = false := decide_eq_false c2
    clear c2
    simp only [Option.some.injEq, Prod.mk.injEq] at H
    obtain ⟨rfl, rfl, rfl⟩ := H
    obtain ⟨HGz6, hgz6⟩ := HI0.out
    have hcz6_0 := cellS111_0 HGz6
    have hcz6_1 := cellS111_1 HGz6
    have hfz6_0 := blk_frozen HGz6 0
    have hfz6_1 := blk_frozen HGz6 1
    clear HGz6 hgz6
    go_enter Tryz.func71, Tryz.ntmps71
    go_wp2
    repeat (go_quiet (fail); try go_wp2)
    go_ret
    exact ⟨by first | rfl | (simp [errW_none, errW_some] <;> rfl) | (simp [*, errW_none, errW_some] <;> rfl), by repeat (first | (with_reducible first | exact HI0.out | apply IsS111.alloc | apply IsS111.drewN | apply IsS111.drew | apply IsS111.set_0 | apply IsS111.set_1) | exact HI0.out), by repeat (first | (with_reducible first | exact HB.out | apply below_alloc | apply pw_below_drewN | apply below_drew1 | refine below_set ?_ (IsS111.ge HI0.out)) | exact HB.out), by repeat (first | (with_reducible first | exact HK.out | apply KeepBut.set_ | apply keep_drewN | apply keep_drew | apply keep_alloc) | exact HK.out)⟩

/-! ### schema_parser_want: function 73 -/
def schema_parser_want.f (s0_0 : ByteArray) (s0_1 : Int) (a1 : Int) : Option (ByteArray × Int) := (schema_parser_peek.f s0_0 s0_1).bind fun bt101 => (if bt101.1 = a1 then (some (bt101.2.1, wrap64 (bt101.2.2 + 1))) else (none))
set_option maxHeartbeats 8000000 in
set_option maxRecDepth 100000 in
theorem schema_parser_want.calls (g : Nat) (s0_0 : ByteArray) (s0_1 : Int) (a1 : Int) (r1 : ByteArray) (r2 : Int) (w0 w : World) (hI : IsS111 w0 w g s0_0 s0_1) (hB : Below w0.heap.size w0 w) (h : schema_parser_want.f s0_0 s0_1 a1 = some (r1, r2)) :
    Calls Tryz.prog 73 #[.pointer (some ⟨g, 0, none⟩), .int .u8 a1] w fun e w' => e = .returned (.tuple #[]) ∧ IsS111 w0 w' g r1 r2 ∧ Below w0.heap.size w0 w' ∧ KeepBut w w' g none := by
  have HI0 := Aside0.mk hI
  have HK := Aside0.mk (KeepBut.refl w g none)
  have HL := Aside0.mk hB.size
  clear hI
  have HW0 := Aside0.mk hB.size
  have HB := Aside0.mk hB
  clear hB
  have H : ((schema_parser_peek.f s0_0 s0_1).bind fun bt101 => (if bt101.1 = a1 then (some (bt101.2.1, wrap64 (bt101.2.2 + 1))) else (none))) = some (r1, r2) := h
  clear h
  replace H := Option.bind_eq_some_iff.mp H
  obtain ⟨⟨t101, t102, t103⟩, A30, H⟩ := H
  replace H : (if t101 = a1 then (some (t102, wrap64 (t103 + 1))) else (none)) = some (r1, r2) := H
  have A3 := Aside0.mk A30
  clear A30
  by_cases c4 : t101 = a1
  · rw [if_pos c4] at H
    have c4b0 : (t101 == a1) = true := beq_iff_eq.mpr c4
    have c4b1 : (t101 != a1) = false := bne_eq_false_iff_eq.mpr c4
    clear c4
    simp only [Option.some.injEq, Prod.mk.injEq] at H
    obtain ⟨rfl, rfl⟩ := H
    go_enter Tryz.func73, Tryz.ntmps73
    go_wp2_with (first | ((with_reducible refine gate_callee (f := 71) rfl ?_); refine goesL_ (some 5) rfl rfl Tryz.func71 (by kernel_rfl) rfl #[.pointer (some ⟨g, 0, none⟩)] rfl (by (try simp only [List.map_toArray, List.map_cons, List.map_nil]); first | done | rfl | (simp only [List.length_drop, List.length_take]; rfl)) ?_; (with_reducible refine (schema_parser_peek.calls g s0_0 s0_1 t101 t102 t103 w0 _ ?side1 ?side2 A3.out).mono ?_); (case side1 => repeat (first | (with_reducible first | exact HI0.out | apply IsS111.alloc | apply IsS111.drewN | apply IsS111.drew | apply IsS111.set_0 | apply IsS111.set_1) | exact HI0.out)); (case side2 => repeat (first | (with_reducible first | exact HB.out | apply below_alloc | apply pw_below_drewN | apply below_drew1 | refine below_set ?_ (IsS111.ge HI0.out)) | exact HB.out)); rintro e w5 ⟨rfl, hi, hb, hk⟩; refine ⟨_, rfl, ?_⟩; have n0_ := Aside0.mk (KeepBut.trans (by repeat (first | (with_reducible first | exact HK.out | apply KeepBut.set_ | apply keep_drewN | apply keep_drew | apply keep_alloc) | exact HK.out)) hk (.inl rfl)); have n1_ := Aside0.mk (hb); have n2_ := Aside0.mk (hi); clear HK; clear HB; clear HI0; have HK := n0_; have HB := n1_; have HI0 := n2_; clear n0_ n1_ n2_; (try clear hb); (try clear hb2); (try clear hk); (try clear hi); obtain ⟨HGz6, hgz6⟩ := HI0.out; have hcz6_0 := cellS111_0 HGz6; have hcz6_1 := cellS111_1 HGz6; have hfz6_0 := blk_frozen HGz6 0; have hfz6_1 := blk_frozen HGz6 1; clear HGz6 hgz6))
    first | go_end0 | ((try simp only [Exit.inBlock, Exit.then]); refine bodyPost_ret (results_none rfl _ _ _) rfl ?_)
    exact ⟨by first | rfl | (simp [errW_none, errW_some] <;> rfl) | (simp [*, errW_none, errW_some] <;> rfl), by repeat (first | (with_reducible first | exact HI0.out | apply IsS111.alloc | apply IsS111.drewN | apply IsS111.drew | apply IsS111.set_0 | apply IsS111.set_1) | exact HI0.out), by repeat (first | (with_reducible first | exact HB.out | apply below_alloc | apply pw_below_drewN | apply below_drew1 | refine below_set ?_ (IsS111.ge HI0.out)) | exact HB.out), by repeat (first | (with_reducible first | exact HK.out | apply KeepBut.set_ | apply keep_drewN | apply keep_drew | apply keep_alloc) | exact HK.out)⟩
  · rw [if_neg c4] at H
    exact absurd H (by simp)

/-! ### schema_parser_number: function 72 -/
def schema_parser_number.l0 : Nat → Int → Int → Int → ByteArray → Int → Option (Int × ByteArray × Int)
  | 0, _, _, _, _, _ => none
  | k + 1, x3, x4, x5, x1000, x1001 => if x5 ≥ 48 then (if x5 ≤ 57 then (if (wrap64 (x1001 - x3)) < 6 then ((schema_parser_peek.f x1000 (wrap64 (x1001 + 1))).bind fun bt107 => (schema_parser_number.l0 k x3 (wrap64 ((wrap64 (10 * x4)) + ((x5 - 48) % 256))) bt107.1 bt107.2.1 bt107.2.2)) else (if (wrap64 (x1001 - x3)) < 1 then (none) else (if (wrap64 (x1001 - x3)) > 5 then (none) else (if (wrap64 (x1001 - x3)) > 1 then (if 0 ≤ x3 then (if x3 < (x1000.size : Int) then (if (bt x1000 x3) = 48 then (none) else (some (x4, x1000, x1001))) else (none)) else (none)) else (some (x4, x1000, x1001)))))) else (if (wrap64 (x1001 - x3)) < 1 then (none) else (if (wrap64 (x1001 - x3)) > 5 then (none) else (if (wrap64 (x1001 - x3)) > 1 then (if 0 ≤ x3 then (if x3 < (x1000.size : Int) then (if (bt x1000 x3) = 48 then (none) else (some (x4, x1000, x1001))) else (none)) else (none)) else (some (x4, x1000, x1001)))))) else (if (wrap64 (x1001 - x3)) < 1 then (none) else (if (wrap64 (x1001 - x3)) > 5 then (none) else (if (wrap64 (x1001 - x3)) > 1 then (if 0 ≤ x3 then (if x3 < (x1000.size : Int) then (if (bt x1000 x3) = 48 then (none) else (some (x4, x1000, x1001))) else (none)) else (none)) else (some (x4, x1000, x1001)))))
def schema_parser_number.f (k : Nat) (s0_0 : ByteArray) (s0_1 : Int) : Option (Int × ByteArray × Int) := (schema_parser_peek.f s0_0 s0_1).bind fun bt104 => (schema_parser_number.l0 k s0_1 0 bt104.1 bt104.2.1 bt104.2.2)
theorem schema_parser_number.mono_l : ∀ k, (∀ y0 y1 y2 y3 y4, LeO (schema_parser_number.l0 k y0 y1 y2 y3 y4) (schema_parser_number.l0 (k + 1) y0 y1 y2 y3 y4))
  | 0 => fun _ _ _ _ _ r h => by simp [schema_parser_number.l0] at h
  | k + 1 => by
    have ih0 := schema_parser_number.mono_l k
    · intro y0 y1 y2 y3 y4
      unfold schema_parser_number.l0
      repeat' first
      | (with_reducible exact ih0 _ _ _ _ _)
      | (with_reducible exact LeO.refl _)
      | (with_reducible exact LeO.none _)
      | (with_reducible refine LeO.ite ?_ ?_)
      | (with_reducible refine LeO.bind ?_ (fun _ => ?_))
      | exact ih0 _ _ _ _ _
      | exact LeO.none _
      | refine LeO.ite ?_ ?_
      | refine LeO.bind ?_ (fun _ => ?_)
theorem schema_parser_number.mono : ∀ a0 a1 k, LeO (schema_parser_number.f k a0 a1) (schema_parser_number.f (k + 1) a0 a1) := by
  intro a0 a1 k
  have ih0 := schema_parser_number.mono_l k
  unfold schema_parser_number.f
  repeat' first
      | (with_reducible exact ih0 _ _ _ _ _)
      | (with_reducible exact LeO.refl _)
      | (with_reducible exact LeO.none _)
      | (with_reducible refine LeO.ite ?_ ?_)
      | (with_reducible refine LeO.bind ?_ (fun _ => ?_))
      | exact ih0 _ _ _ _ _
      | exact LeO.none _
      | refine LeO.ite ?_ ?_
      | refine LeO.bind ?_ (fun _ => ?_)
set_option maxHeartbeats 8000000 in
set_option maxRecDepth 100000 in
theorem schema_parser_number.calls (k : Nat) (g : Nat) (s0_0 : ByteArray) (s0_1 : Int) (r1 : Int) (r2 : ByteArray) (r3 : Int) (w0 w : World) (hI : IsS111 w0 w g s0_0 s0_1) (hB : Below w0.heap.size w0 w) (h : schema_parser_number.f k s0_0 s0_1 = some (r1, r2, r3)) :
    Calls Tryz.prog 72 #[.pointer (some ⟨g, 0, none⟩)] w fun e w' => e = .returned (.int .i64 r1) ∧ IsS111 w0 w' g r2 r3 ∧ Below w0.heap.size w0 w' ∧ KeepBut w w' g none := by
  have HI0 := Aside0.mk hI
  have HK := Aside0.mk (KeepBut.refl w g none)
  have HL := Aside0.mk hB.size
  clear hI
  have HW0 := Aside0.mk hB.size
  have HB := Aside0.mk hB
  clear hB
  have H : ((schema_parser_peek.f s0_0 s0_1).bind fun bt104 => (schema_parser_number.l0 k s0_1 0 bt104.1 bt104.2.1 bt104.2.2)) = some (r1, r2, r3) := h
  clear h
  replace H := Option.bind_eq_some_iff.mp H
  obtain ⟨⟨t104, t105, t106⟩, A20, H⟩ := H
  replace H : (schema_parser_number.l0 k s0_1 0 t104 t105 t106) = some (r1, r2, r3) := H
  have A2 := Aside0.mk A20
  clear A20
  have H' := Aside0.mk H
  clear H
  obtain ⟨HGz3, hgz3⟩ := HI0.out
  have hcz3_0 := cellS111_0 HGz3
  have hcz3_1 := cellS111_1 HGz3
  have hfz3_0 := blk_frozen HGz3 0
  have hfz3_1 := blk_frozen HGz3 1
  clear HGz3 hgz3
  go_enter Tryz.func72, Tryz.ntmps72
  go_wp2_with (first | ((with_reducible refine gate_callee (f := 71) rfl ?_); refine goesL_ (some 12) rfl rfl Tryz.func71 (by kernel_rfl) rfl #[.pointer (some ⟨g, 0, none⟩)] rfl (by (try simp only [List.map_toArray, List.map_cons, List.map_nil]); first | done | rfl | (simp only [List.length_drop, List.length_take]; rfl)) ?_; (with_reducible refine (schema_parser_peek.calls g s0_0 s0_1 t104 t105 t106 w0 _ ?side1 ?side2 A2.out).mono ?_); (case side1 => repeat (first | (with_reducible first | exact HI0.out | apply IsS111.alloc | apply IsS111.drewN | apply IsS111.drew | apply IsS111.set_0 | apply IsS111.set_1) | exact HI0.out)); (case side2 => repeat (first | (with_reducible first | exact HB.out | apply below_alloc | apply pw_below_drewN | apply below_drew1 | refine below_set ?_ (IsS111.ge HI0.out)) | exact HB.out)); rintro e w4 ⟨rfl, hi, hb, hk⟩; refine ⟨_, rfl, ?_⟩; have n0_ := Aside0.mk (KeepBut.trans (by repeat (first | (with_reducible first | exact HK.out | apply KeepBut.set_ | apply keep_drewN | apply keep_drew | apply keep_alloc) | exact HK.out)) hk (.inl rfl)); have n1_ := Aside0.mk (hb); have n2_ := Aside0.mk (hi); clear HK; clear HB; clear HI0; have HK := n0_; have HB := n1_; have HI0 := n2_; clear n0_ n1_ n2_; (try clear hb); (try clear hb2); (try clear hk); (try clear hi)))
  go_loopg [4, 5] k (fun kq v4 v5 w' => ∃ (x4_1 : Int) (x5_1 : Int) (x1000_1 : ByteArray) (x1001_1 : Int), v4 = .int .i64 x4_1 ∧ v5 = .int .u8 x5_1 ∧ Aside0 (schema_parser_number.l0 kq s0_1 x4_1 x5_1 x1000_1 x1001_1 = some (r1, r2, r3)) ∧ Aside0 (kq ≤ k) ∧ Aside0 (IsS111 w0 w' g x1000_1 x1001_1) ∧ Aside0 (KeepBut w w' g none) ∧ Aside0 (Below w0.heap.size w0 w'))
  case atStart => exact ⟨(0), (t104), (t105), (t106), (by first | rfl | (simp; done) | (simp [*]; done)), (by first | rfl | (simp; done) | (simp [*]; done)), H', ⟨Nat.le_refl _⟩, ⟨by repeat (first | (with_reducible first | exact HI0.out | apply IsS111.alloc | apply IsS111.drewN | apply IsS111.drew | apply IsS111.set_0 | apply IsS111.set_1) | exact HI0.out)⟩, ⟨by repeat (first | (with_reducible first | exact HK.out | apply KeepBut.set_ | apply keep_drewN | apply keep_drew | apply keep_alloc) | exact HK.out)⟩, ⟨by repeat (first | (with_reducible first | exact HB.out | apply below_alloc | apply pw_below_drewN | apply below_drew1 | refine below_set ?_ (IsS111.ge HI0.out)) | exact HB.out)⟩⟩
  case round =>
    clear H'
    try clear p2
    try clear hcz3_0
    try clear hcz3_1
    try clear hfz3_0
    try clear hfz3_1
    obtain ⟨x4_1, x5_1, x1000_1, x1001_1, rfl, rfl, HA, HK1, HI0, HK, HB⟩ := hrel
    cases gk with
    | zero => exact absurd HA.out (by simp [schema_parser_number.l0])
    | succ k1 =>
      have H := HA.out
      clear HA
      simp only [schema_parser_number.l0] at H
      by_cases c5 : x5_1 ≥ 48
      · rw [if_pos c5] at H
        have c5b0 : decide (48 ≤ x5_1) = true := decide_eq_true c5
        clear c5
        by_cases c6 : x5_1 ≤ 57
        · rw [if_pos c6] at H
          have c6b0 : decide (x5_1 ≤ 57) = true := decide_eq_true c6
          clear c6
          by_cases c7 : (wrap64 (x1001_1 - s0_1)) < 6
          · rw [if_pos c7] at H
            have c7b0 : decide ((wrap64 (x1001_1 - s0_1)) < 6) = true := decide_eq_true c7
            clear c7
            replace H := Option.bind_eq_some_iff.mp H
            obtain ⟨⟨t107, t108, t109⟩, A80, H⟩ := H
            replace H : (schema_parser_number.l0 k1 s0_1 (wrap64 ((wrap64 (10 * x4_1)) + ((x5_1 - 48) % 256))) t107 t108 t109) = some (r1, r2, r3) := H
            have A8 := Aside0.mk A80
            clear A80
            have H' := Aside0.mk H
            clear H
            obtain ⟨HGz9, hgz9⟩ := HI0.out
            have hcz9_0 := cellS111_0 HGz9
            have hcz9_1 := cellS111_1 HGz9
            have hfz9_0 := blk_frozen HGz9 0
            have hfz9_1 := blk_frozen HGz9 1
            clear HGz9 hgz9
            go_wp2_with (first | ((with_reducible refine gate_callee (f := 71) rfl ?_); refine goesL_ (some 29) rfl rfl Tryz.func71 (by kernel_rfl) rfl #[.pointer (some ⟨g, 0, none⟩)] rfl (by (try simp only [List.map_toArray, List.map_cons, List.map_nil]); first | done | rfl | (simp only [List.length_drop, List.length_take]; rfl)) ?_; (with_reducible refine (schema_parser_peek.calls g x1000_1 (wrap64 (x1001_1 + 1)) t107 t108 t109 w0 _ ?side1 ?side2 A8.out).mono ?_); (case side1 => repeat (first | (with_reducible first | exact HI0.out | apply IsS111.alloc | apply IsS111.drewN | apply IsS111.drew | apply IsS111.set_0 | apply IsS111.set_1) | exact HI0.out)); (case side2 => repeat (first | (with_reducible first | exact HB.out | apply below_alloc | apply pw_below_drewN | apply below_drew1 | refine below_set ?_ (IsS111.ge HI0.out)) | exact HB.out)); rintro e w10 ⟨rfl, hi, hb, hk⟩; refine ⟨_, rfl, ?_⟩; have n0_ := Aside0.mk (KeepBut.trans (by repeat (first | (with_reducible first | exact HK.out | apply KeepBut.set_ | apply keep_drewN | apply keep_drew | apply keep_alloc) | exact HK.out)) hk (.inl rfl)); have n1_ := Aside0.mk (hb); have n2_ := Aside0.mk (hi); clear HK; clear HB; clear HI0; have HK := n0_; have HB := n1_; have HI0 := n2_; clear n0_ n1_ n2_; (try clear hb); (try clear hb2); (try clear hk); (try clear hi)))
            go_roundg k1
            case measure => have := HK1.out; omega
            case rel => exact ⟨(wrap64 ((wrap64 (10 * x4_1)) + ((x5_1 - 48) % 256))), (t107), (t108), (t109), (by first | rfl | (simp; done) | (simp [*]; done)), (by first | rfl | (simp; done) | (simp [*]; done)), H', ⟨by have := HK1.out; omega⟩, ⟨by repeat (first | (with_reducible first | exact HI0.out | apply IsS111.alloc | apply IsS111.drewN | apply IsS111.drew | apply IsS111.set_0 | apply IsS111.set_1) | exact HI0.out)⟩, ⟨by repeat (first | (with_reducible first | exact HK.out | apply KeepBut.set_ | apply keep_drewN | apply keep_drew | apply keep_alloc) | exact HK.out)⟩, ⟨by repeat (first | (with_reducible first | exact HB.out | apply below_alloc | apply pw_below_drewN | apply below_drew1 | refine below_set ?_ (IsS111.ge HI0.out)) | exact HB.out)⟩⟩
          · rw [if_neg c7] at H
            have c7b0 : decide ((wrap64 (x1001_1 - s0_1)) < 6) = false := decide_eq_false c7
            clear c7
            by_cases c11 : (wrap64 (x1001_1 - s0_1)) < 1
            · rw [if_pos c11] at H
              exact absurd H (by simp)
            · rw [if_neg c11] at H
              have c11b0 : decide ((wrap64 (x1001_1 - s0_1)) < 1) = false := decide_eq_false c11
              clear c11
              by_cases c12 : (wrap64 (x1001_1 - s0_1)) > 5
              · rw [if_pos c12] at H
                exact absurd H (by simp)
              · rw [if_neg c12] at H
                have c12b0 : decide (5 < (wrap64 (x1001_1 - s0_1))) = false := decide_eq_false c12
                clear c12
                by_cases c13 : (wrap64 (x1001_1 - s0_1)) > 1
                · rw [if_pos c13] at H
                  have c13b0 : decide (1 < (wrap64 (x1001_1 - s0_1))) = true := decide_eq_true c13
                  clear c13
                  by_cases c14 : 0 ≤ s0_1
                  · rw [if_pos c14] at H
                    have c14b0 : decide (0 ≤ s0_1) = true := decide_eq_true c14
                    clear c14
                    by_cases c15 : s0_1 < (x1000_1.size : Int)
                    · rw [if_pos c15] at H
                      have c15b0 : decide (s0_1 < (x1000_1.size : Int)) = true := decide_eq_true c15
                      clear c15
                      by_cases c17 : (bt x1000_1 s0_1) = 48
                      · rw [if_pos c17] at H
                        exact absurd H (by simp)
                      · rw [if_neg c17] at H
                        have c17b0 : ((bt x1000_1 s0_1) == 48) = false := beq_eq_false_iff_ne.mpr c17
                        have c17b1 : ((bt x1000_1 s0_1) != 48) = true := bne_iff_ne.mpr c17
                        simp only [Option.some.injEq, Prod.mk.injEq] at H
                        obtain ⟨rfl, rfl, rfl⟩ := H
                        obtain ⟨HGz18, hgz18⟩ := HI0.out
                        have hcz18_0 := cellS111_0 HGz18
                        have hcz18_1 := cellS111_1 HGz18
                        have hfz18_0 := blk_frozen HGz18 0
                        have hfz18_1 := blk_frozen HGz18 1
                        clear HGz18 hgz18
                        have p16 : 0 ≤ (s0_1 : Int) := of_decide_eq_true (by first | (with_reducible assumption) | assumption)
                        have q16 : s0_1 < (x1000_1.size : Int) := of_decide_eq_true (by first | (with_reducible assumption) | assumption)
                        have hx16 := bt_at x1000_1 s0_1
                        replace p16 := eq_true p16
                        replace q16 := eq_true q16
                        go_wp2
                        go_ret
                        exact ⟨by first | rfl | (simp [errW_none, errW_some] <;> rfl) | (simp [*, errW_none, errW_some] <;> rfl), by repeat (first | (with_reducible first | exact HI0.out | apply IsS111.alloc | apply IsS111.drewN | apply IsS111.drew | apply IsS111.set_0 | apply IsS111.set_1) | exact HI0.out), by repeat (first | (with_reducible first | exact HB.out | apply below_alloc | apply pw_below_drewN | apply below_drew1 | refine below_set ?_ (IsS111.ge HI0.out)) | exact HB.out), by repeat (first | (with_reducible first | exact HK.out | apply KeepBut.set_ | apply keep_drewN | apply keep_drew | apply keep_alloc) | exact HK.out)⟩
                    · rw [if_neg c15] at H
                      exact absurd H (by simp)
                  · rw [if_neg c14] at H
                    exact absurd H (by simp)
                · rw [if_neg c13] at H
                  have c13b0 : decide (1 < (wrap64 (x1001_1 - s0_1))) = false := decide_eq_false c13
                  clear c13
                  simp only [Option.some.injEq, Prod.mk.injEq] at H
                  obtain ⟨rfl, rfl, rfl⟩ := H
                  obtain ⟨HGz19, hgz19⟩ := HI0.out
                  have hcz19_0 := cellS111_0 HGz19
                  have hcz19_1 := cellS111_1 HGz19
                  have hfz19_0 := blk_frozen HGz19 0
                  have hfz19_1 := blk_frozen HGz19 1
                  clear HGz19 hgz19
                  go_wp2
                  go_ret
                  exact ⟨by first | rfl | (simp [errW_none, errW_some] <;> rfl) | (simp [*, errW_none, errW_some] <;> rfl), by repeat (first | (with_reducible first | exact HI0.out | apply IsS111.alloc | apply IsS111.drewN | apply IsS111.drew | apply IsS111.set_0 | apply IsS111.set_1) | exact HI0.out), by repeat (first | (with_reducible first | exact HB.out | apply below_alloc | apply pw_below_drewN | apply below_drew1 | refine below_set ?_ (IsS111.ge HI0.out)) | exact HB.out), by repeat (first | (with_reducible first | exact HK.out | apply KeepBut.set_ | apply keep_drewN | apply keep_drew | apply keep_alloc) | exact HK.out)⟩
        · rw [if_neg c6] at H
          have c6b0 : decide (x5_1 ≤ 57) = false := decide_eq_false c6
          clear c6
          by_cases c20 : (wrap64 (x1001_1 - s0_1)) < 1
          · rw [if_pos c20] at H
            exact absurd H (by simp)
          · rw [if_neg c20] at H
            have c20b0 : decide ((wrap64 (x1001_1 - s0_1)) < 1) = false := decide_eq_false c20
            clear c20
            by_cases c21 : (wrap64 (x1001_1 - s0_1)) > 5
            · rw [if_pos c21] at H
              exact absurd H (by simp)
            · rw [if_neg c21] at H
              have c21b0 : decide (5 < (wrap64 (x1001_1 - s0_1))) = false := decide_eq_false c21
              clear c21
              by_cases c22 : (wrap64 (x1001_1 - s0_1)) > 1
              · rw [if_pos c22] at H
                have c22b0 : decide (1 < (wrap64 (x1001_1 - s0_1))) = true := decide_eq_true c22
                clear c22
                by_cases c23 : 0 ≤ s0_1
                · rw [if_pos c23] at H
                  have c23b0 : decide (0 ≤ s0_1) = true := decide_eq_true c23
                  clear c23
                  by_cases c24 : s0_1 < (x1000_1.size : Int)
                  · rw [if_pos c24] at H
                    have c24b0 : decide (s0_1 < (x1000_1.size : Int)) = true := decide_eq_true c24
                    clear c24
                    by_cases c26 : (bt x1000_1 s0_1) = 48
                    · rw [if_pos c26] at H
                      exact absurd H (by simp)
                    · rw [if_neg c26] at H
                      have c26b0 : ((bt x1000_1 s0_1) == 48) = false := beq_eq_false_iff_ne.mpr c26
                      have c26b1 : ((bt x1000_1 s0_1) != 48) = true := bne_iff_ne.mpr c26
                      simp only [Option.some.injEq, Prod.mk.injEq] at H
                      obtain ⟨rfl, rfl, rfl⟩ := H
                      obtain ⟨HGz27, hgz27⟩ := HI0.out
                      have hcz27_0 := cellS111_0 HGz27
                      have hcz27_1 := cellS111_1 HGz27
                      have hfz27_0 := blk_frozen HGz27 0
                      have hfz27_1 := blk_frozen HGz27 1
                      clear HGz27 hgz27
                      have p25 : 0 ≤ (s0_1 : Int) := of_decide_eq_true (by first | (with_reducible assumption) | assumption)
                      have q25 : s0_1 < (x1000_1.size : Int) := of_decide_eq_true (by first | (with_reducible assumption) | assumption)
                      have hx25 := bt_at x1000_1 s0_1
                      replace p25 := eq_true p25
                      replace q25 := eq_true q25
                      go_wp2
                      go_ret
                      exact ⟨by first | rfl | (simp [errW_none, errW_some] <;> rfl) | (simp [*, errW_none, errW_some] <;> rfl), by repeat (first | (with_reducible first | exact HI0.out | apply IsS111.alloc | apply IsS111.drewN | apply IsS111.drew | apply IsS111.set_0 | apply IsS111.set_1) | exact HI0.out), by repeat (first | (with_reducible first | exact HB.out | apply below_alloc | apply pw_below_drewN | apply below_drew1 | refine below_set ?_ (IsS111.ge HI0.out)) | exact HB.out), by repeat (first | (with_reducible first | exact HK.out | apply KeepBut.set_ | apply keep_drewN | apply keep_drew | apply keep_alloc) | exact HK.out)⟩
                  · rw [if_neg c24] at H
                    exact absurd H (by simp)
                · rw [if_neg c23] at H
                  exact absurd H (by simp)
              · rw [if_neg c22] at H
                have c22b0 : decide (1 < (wrap64 (x1001_1 - s0_1))) = false := decide_eq_false c22
                clear c22
                simp only [Option.some.injEq, Prod.mk.injEq] at H
                obtain ⟨rfl, rfl, rfl⟩ := H
                obtain ⟨HGz28, hgz28⟩ := HI0.out
                have hcz28_0 := cellS111_0 HGz28
                have hcz28_1 := cellS111_1 HGz28
                have hfz28_0 := blk_frozen HGz28 0
                have hfz28_1 := blk_frozen HGz28 1
                clear HGz28 hgz28
                go_wp2
                go_ret
                exact ⟨by first | rfl | (simp [errW_none, errW_some] <;> rfl) | (simp [*, errW_none, errW_some] <;> rfl), by repeat (first | (with_reducible first | exact HI0.out | apply IsS111.alloc | apply IsS111.drewN | apply IsS111.drew | apply IsS111.set_0 | apply IsS111.set_1) | exact HI0.out), by repeat (first | (with_reducible first | exact HB.out | apply below_alloc | apply pw_below_drewN | apply below_drew1 | refine below_set ?_ (IsS111.ge HI0.out)) | exact HB.out), by repeat (first | (with_reducible first | exact HK.out | apply KeepBut.set_ | apply keep_drewN | apply keep_drew | apply keep_alloc) | exact HK.out)⟩
      · rw [if_neg c5] at H
        have c5b0 : decide (48 ≤ x5_1) = false := decide_eq_false c5
        clear c5
        by_cases c29 : (wrap64 (x1001_1 - s0_1)) < 1
        · rw [if_pos c29] at H
          exact absurd H (by simp)
        · rw [if_neg c29] at H
          have c29b0 : decide ((wrap64 (x1001_1 - s0_1)) < 1) = false := decide_eq_false c29
          clear c29
          by_cases c30 : (wrap64 (x1001_1 - s0_1)) > 5
          · rw [if_pos c30] at H
            exact absurd H (by simp)
          · rw [if_neg c30] at H
            have c30b0 : decide (5 < (wrap64 (x1001_1 - s0_1))) = false := decide_eq_false c30
            clear c30
            by_cases c31 : (wrap64 (x1001_1 - s0_1)) > 1
            · rw [if_pos c31] at H
              have c31b0 : decide (1 < (wrap64 (x1001_1 - s0_1))) = true := decide_eq_true c31
              clear c31
              by_cases c32 : 0 ≤ s0_1
              · rw [if_pos c32] at H
                have c32b0 : decide (0 ≤ s0_1) = true := decide_eq_true c32
                clear c32
                by_cases c33 : s0_1 < (x1000_1.size : Int)
                · rw [if_pos c33] at H
                  have c33b0 : decide (s0_1 < (x1000_1.size : Int)) = true := decide_eq_true c33
                  clear c33
                  by_cases c35 : (bt x1000_1 s0_1) = 48
                  · rw [if_pos c35] at H
                    exact absurd H (by simp)
                  · rw [if_neg c35] at H
                    have c35b0 : ((bt x1000_1 s0_1) == 48) = false := beq_eq_false_iff_ne.mpr c35
                    have c35b1 : ((bt x1000_1 s0_1) != 48) = true := bne_iff_ne.mpr c35
                    simp only [Option.some.injEq, Prod.mk.injEq] at H
                    obtain ⟨rfl, rfl, rfl⟩ := H
                    obtain ⟨HGz36, hgz36⟩ := HI0.out
                    have hcz36_0 := cellS111_0 HGz36
                    have hcz36_1 := cellS111_1 HGz36
                    have hfz36_0 := blk_frozen HGz36 0
                    have hfz36_1 := blk_frozen HGz36 1
                    clear HGz36 hgz36
                    have p34 : 0 ≤ (s0_1 : Int) := of_decide_eq_true (by first | (with_reducible assumption) | assumption)
                    have q34 : s0_1 < (x1000_1.size : Int) := of_decide_eq_true (by first | (with_reducible assumption) | assumption)
                    have hx34 := bt_at x1000_1 s0_1
                    replace p34 := eq_true p34
                    replace q34 := eq_true q34
                    go_wp2
                    go_ret
                    exact ⟨by first | rfl | (simp [errW_none, errW_some] <;> rfl) | (simp [*, errW_none, errW_some] <;> rfl), by repeat (first | (with_reducible first | exact HI0.out | apply IsS111.alloc | apply IsS111.drewN | apply IsS111.drew | apply IsS111.set_0 | apply IsS111.set_1) | exact HI0.out), by repeat (first | (with_reducible first | exact HB.out | apply below_alloc | apply pw_below_drewN | apply below_drew1 | refine below_set ?_ (IsS111.ge HI0.out)) | exact HB.out), by repeat (first | (with_reducible first | exact HK.out | apply KeepBut.set_ | apply keep_drewN | apply keep_drew | apply keep_alloc) | exact HK.out)⟩
                · rw [if_neg c33] at H
                  exact absurd H (by simp)
              · rw [if_neg c32] at H
                exact absurd H (by simp)
            · rw [if_neg c31] at H
              have c31b0 : decide (1 < (wrap64 (x1001_1 - s0_1))) = false := decide_eq_false c31
              clear c31
              simp only [Option.some.injEq, Prod.mk.injEq] at H
              obtain ⟨rfl, rfl, rfl⟩ := H
              obtain ⟨HGz37, hgz37⟩ := HI0.out
              have hcz37_0 := cellS111_0 HGz37
              have hcz37_1 := cellS111_1 HGz37
              have hfz37_0 := blk_frozen HGz37 0
              have hfz37_1 := blk_frozen HGz37 1
              clear HGz37 hgz37
              go_wp2
              go_ret
              exact ⟨by first | rfl | (simp [errW_none, errW_some] <;> rfl) | (simp [*, errW_none, errW_some] <;> rfl), by repeat (first | (with_reducible first | exact HI0.out | apply IsS111.alloc | apply IsS111.drewN | apply IsS111.drew | apply IsS111.set_0 | apply IsS111.set_1) | exact HI0.out), by repeat (first | (with_reducible first | exact HB.out | apply below_alloc | apply pw_below_drewN | apply below_drew1 | refine below_set ?_ (IsS111.ge HI0.out)) | exact HB.out), by repeat (first | (with_reducible first | exact HK.out | apply KeepBut.set_ | apply keep_drewN | apply keep_drew | apply keep_alloc) | exact HK.out)⟩

end Go.Proofs.YthamffpieafkbaaGreatDoor.PA
