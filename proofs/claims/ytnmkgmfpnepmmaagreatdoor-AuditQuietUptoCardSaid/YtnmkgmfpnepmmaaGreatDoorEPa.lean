/- The walk of audit.Pace: the mean gap between a client's moments. -/
import Derived.Test.YtnmkgmfpnepmmaaGreatDoorEF
import Derived.Test.YtnmkgmfpnepmmaaGreatDoorLib
import Derived.LoopN
namespace Go.Proofs.YtnmkgmfpnepmmaaGreatDoor.PA
open Go.RowKit Go.Proofs.YtnmkgmfpnepmmaaGreatDoorW.PrintWords Go.Proofs.YtnmkgmfpnepmmaaGreatDoorW.PrintLast Go.Proofs.YtnmkgmfpnepmmaaGreatDoorW.PrintMore
set_option linter.unusedVariables false
set_option linter.unusedSimpArgs false
set_option maxRecDepth 100000

/-- the gaps of a client, the row ahead known or not -/
def gapsFrom (c : Int) : Option S29 → List S29 → List Nat
  | _, [] => []
  | last, r :: rs => if r.f0 = c then (match last with
      | none => []
      | some x => [Fl.gap r.f1 x.f1]) ++ gapsFrom c (some r) rs else gapsFrom c last rs

theorem gapsFrom_ne {c : Int} {last : Option S29} {r : S29} {rs : List S29} (h : ¬ r.f0 = c) : gapsFrom c last (r :: rs) = gapsFrom c last rs := by
  cases last <;> simp [gapsFrom, h]
theorem gapsFrom_none {c : Int} {r : S29} {rs : List S29} (h : r.f0 = c) : gapsFrom c none (r :: rs) = gapsFrom c (some r) rs := by
  rw [gapsFrom, if_pos h]; rfl
theorem gapsFrom_some {c : Int} {x r : S29} {rs : List S29} (h : r.f0 = c) : gapsFrom c (some x) (r :: rs) = Fl.gap r.f1 x.f1 :: gapsFrom c (some r) rs := by
  rw [gapsFrom, if_pos h]; rfl

def Ok64 (n : Int) : Prop := -9223372036854775808 ≤ n ∧ n ≤ 9223372036854775807
theorem gapsFrom_good (c : Int) : ∀ (rs : List S29) (last : Option S29), (∀ r ∈ rs, Ok64 r.f1) → (∀ x, last = some x → Ok64 x.f1) → ∀ g ∈ gapsFrom c last rs, Fl.Good g
  | [], _, _, _ => by intro g hg; simp [gapsFrom] at hg
  | r :: rs, last, h, hl => by
    intro g hg
    have hr := h r (by simp)
    unfold gapsFrom at hg
    split at hg
    · rw [List.mem_append] at hg
      rcases hg with hg | hg
      · cases last with
        | none => simp at hg
        | some x =>
          simp at hg
          subst hg
          have hx := hl x rfl
          exact (Fl.gap_ok r.f1 x.f1 hr.1 hr.2 hx.1 hx.2).2
      · exact gapsFrom_good c rs (some r) (fun y hy => h y (by simp [hy])) (fun x hx => by cases hx; exact hr) g hg
    · exact gapsFrom_good c rs last (fun y hy => h y (by simp [hy])) hl g hg
theorem gapsFrom_length (c : Int) : ∀ (rs : List S29) (last : Option S29), (gapsFrom c last rs).length ≤ rs.length
  | [], _ => by simp [gapsFrom]
  | r :: rs, last => by
    unfold gapsFrom
    split
    · have := gapsFrom_length c rs (some r)
      cases last <;> simp <;> omega
    · have := gapsFrom_length c rs last
      simp; omega

theorem info30 : (Tryz.prog.info? 30).map (fun i => (i.zero, i.size, i.bytes)) = some (some (.float .f64 0), 1, 8) := by kernel_rfl

def cellsOf (r : S29) : Array Value := #[.int .i64 r.f0, .int .i64 r.f1, .int .i64 r.f2, .int .i64 r.f3, .int .i64 r.f4, .bool r.f5]
/-- the slice that holds the row ahead -/
def LastIs (w0 W : World) (v : Value) : Option S29 → Prop
  | none => v = .slice none 0 0
  | some x => ∃ g, v = .slice (some ⟨g, 0, none⟩) 1 1 ∧ W.heap[g]? = some (.cells (cellsOf x) 29 (0, 0)) ∧ w0.heap.size ≤ g

theorem LastIs.below {w0 W w1 : World} {v : Value} {o : Option S29} (h : LastIs w0 W v o) (hb : Below W.heap.size W w1) : LastIs w0 w1 v o := by
  cases o with
  | none => exact h
  | some x => obtain ⟨g, h1, h2, h3⟩ := h; exact ⟨g, h1, Lb.blk_below h2 hb, h3⟩
theorem LastIs.grown {w0 W w1 : World} {v : Value} {o : Option S29} {gb : Nat} (h : LastIs w0 W v o) (hg : W.grownBy w1 (some gb)) (hne : v.ownBlock ≠ some gb) : LastIs w0 w1 v o := by
  cases o with
  | none => exact h
  | some x =>
    obtain ⟨g, rfl, h2, h3⟩ := h
    exact ⟨g, rfl, Lb.blk_grown' h2 hg (fun e => hne (by rw [e]; rfl)), h3⟩
theorem LastIs.ne {w0 W : World} {v : Value} {o : Option S29} (h : LastIs w0 W v o) : v.ownBlock ≠ some W.heap.size := by
  cases o with
  | none => rw [show v = .slice none 0 0 from h]; intro e; cases e
  | some x =>
    obtain ⟨g, rfl, h2, h3⟩ := h
    intro e
    injection e with e
    have h4 : g = W.heap.size := e
    have := blk_lt h2
    omega
theorem cellsOf_one (r : S29) : ∀ q ∈ (cellsOf r).toList, q.oneCell' = true := by simp [cellsOf, Value.oneCell']

theorem rd_mem {α : Type} {l : List α} {d : α} {k : Nat} (h : k < l.length) : l.getD k d ∈ l := by
  rw [List.getD_eq_getElem?_getD, List.getElem?_eq_getElem h]; exact List.getElem_mem h
theorem drop_rd {α : Type} {l : List α} {d : α} {k : Nat} (h : k < l.length) : l.drop k = l.getD k d :: l.drop (k + 1) := by
  rw [List.getD_eq_getElem?_getD, List.getElem?_eq_getElem h, List.drop_eq_getElem_cons h]; rfl

theorem pace_calls (A : Option Addr) (n : Nat) (c : Int) (l : List S29) (w : World) (hr : k29.C w A l.length l) (hc : l.length ≤ n) (hn : l.length ≤ 4398046511104)
    (h64 : ∀ r ∈ l, Ok64 r.f1) :
    Calls Tryz.prog 6 #[.slice A l.length n, .int .i64 c] w fun e w' => MeanAns (gapsFrom c none l) e ∧ Below w.heap.size w w' := by
  have H64 := Lib.hid h64
  have HR := Lib.hid hr
  clear h64 hr
  have hu := Tryz.underlying29
  go_enter Tryz.func6, Tryz.ntmps6
  go_wp2_with fail
  go_loopw [6, 7, 14] (fun v6 v7 i W => ∃ (k : Nat) (L : List Nat) (last : Option S29), k ≤ l.length ∧ i = .int .i64 k ∧ Aside0 (kF.R 30 W w.heap.size (fun _ => True) v6 L) ∧ Aside0 (LastIs w W v7 last) ∧ Aside0 (Below w.heap.size w W) ∧ Aside0 (L ++ gapsFrom c last (l.drop k) = gapsFrom c none l) ∧ Aside0 (∀ x, last = some x → Ok64 x.f1)) (fun _ _ i _ => l.length - (intOf i).toNat)
  case atStart => exact ⟨0, [], none, Nat.zero_le _, rfl, ⟨Kd.R_nil _ _ _ _ _⟩, ⟨rfl⟩, ⟨Below.refl _ _⟩, ⟨by simp⟩, ⟨fun x h => by cases h⟩⟩
  case round =>
    rename_i wr
    obtain ⟨k, L, last, hk, rfl, HL, HA, HB, HG, HO⟩ := hrel
    by_cases hlt : k < l.length
    · obtain ⟨ad, rfl, hc0, hc1, hc2, hc3, hc4, hc5⟩ := at_T29 HR.out k (by omega) (by omega)
      simp only [Int.toNat_natCast] at hc0 hc1 hc2 hc3 hc4 hc5
      replace hc0 := (HB.out.cell (World.block_lt_of_cell? w _ hc0)).trans hc0
      replace hc1 := (HB.out.cell (World.block_lt_of_cell? w _ hc1)).trans hc1
      replace hc2 := (HB.out.cell (World.block_lt_of_cell? w _ hc2)).trans hc2
      replace hc3 := (HB.out.cell (World.block_lt_of_cell? w _ hc3)).trans hc3
      replace hc4 := (HB.out.cell (World.block_lt_of_cell? w _ hc4)).trans hc4
      replace hc5 := (HB.out.cell (World.block_lt_of_cell? w _ hc5)).trans hc5
      obtain ⟨r, hrd⟩ : ∃ r, r = l.getD k z29 := ⟨_, rfl⟩
      have e0 : rd_T29 l k = r := by rw [hrd]; rfl
      rw [e0] at hc0 hc1 hc2 hc3 hc4 hc5
      have hdrop : l.drop k = r :: l.drop (k + 1) := by rw [hrd]; exact drop_rd hlt
      have HR64 : Aside0 (Ok64 r.f1) := ⟨H64.out r (by rw [hrd]; exact rd_mem hlt)⟩
      have HG' : Aside0 (L ++ gapsFrom c last (r :: l.drop (k + 1)) = gapsFrom c none l) := ⟨by rw [← hdrop]; exact HG.out⟩
      clear e0 hrd hdrop HG
      by_cases hcl : r.f0 = c
      · have hb0 : (r.f0 != c) = false := by simp [hcl]
        cases last with
        | none =>
          have HG2 : Aside0 (L ++ gapsFrom c (some r) (l.drop (k + 1)) = gapsFrom c none l) := ⟨by have h := HG'.out; rw [gapsFrom_none hcl] at h; exact h⟩
          obtain rfl : u7 = .slice none 0 0 := HA.out
          clear hcl
          go_wp2_with (first
            | ((with_reducible refine gate_dst (N := 9) rfl ?_); refine box_event ?hg (N := 9) ?hd (cs := #[.int .i64 0, .int .i64 0, .int .i64 0, .int .i64 0, .int .i64 0, .bool false]) (t := 29) ?hr ?_; (case hd => rfl); (case hg => rfl); (case hr => first | (go_simp; done) | (go_simp; rfl)); intro gb hg w1 hbox hb; have HL1 := Aside0.mk (Kd.R_below HL.out hb); have HA1 := Aside0.mk (HA.out.below hb); have HB1 := Aside0.mk (below_step HB.out hb); have HGB : Aside0 (w.heap.size ≤ gb) := ⟨by rw [hg]; exact HB.out.size⟩; have HNE : Aside0 ((Value.slice none 0 0).ownBlock ≠ some gb) := ⟨by rw [hg]; exact HA.out.ne⟩; have BX := Aside0.mk hbox; clear HL HA HB hc0 hc1 hc2 hc3 hc4 hc5; clear hb hbox hg)
            | ((with_reducible refine gate_store (t := 29) (p := 9) rfl ?_); refine Lb.store_whole rfl rfl 29 (.tmp 9) (.tmp 17) rfl (new := cellsOf r) rfl rfl BX.out rfl (by kernel_rfl) (cellsOf_one r) ?_; intro w2 hb2 hg2; have HL := Aside0.mk (Lb.R_grown HL1.out hg2 BX.out (by decide)); have HA := Aside0.mk (HA1.out.grown hg2 HNE.out); have HB := Aside0.mk (Lb.grown_below HB1.out hg2 HB1.out.size HGB.out); clear BX HL1 HA1 HB1; have BX := Aside0.mk hb2; clear hb2 hg2; have z0 : w2.cell? ⟨gb, 0, none⟩ = some (.int .i64 r.f0) := (blk_cell BX.out 0).trans rfl; have z1 : w2.cell? ⟨gb, 1, none⟩ = some (.int .i64 r.f1) := (blk_cell BX.out 1).trans rfl; have z2 : w2.cell? ⟨gb, 2, none⟩ = some (.int .i64 r.f2) := (blk_cell BX.out 2).trans rfl; have z3 : w2.cell? ⟨gb, 3, none⟩ = some (.int .i64 r.f3) := (blk_cell BX.out 3).trans rfl; have z4 : w2.cell? ⟨gb, 4, none⟩ = some (.int .i64 r.f4) := (blk_cell BX.out 4).trans rfl; have z5 : w2.cell? ⟨gb, 5, none⟩ = some (.bool r.f5) := (blk_cell BX.out 5).trans rfl))
          refine wp_loop_rounds 1 ?_
          rw [rounds_succ]
          go_wp2_with fail
          go_roundw
          case rel => exact ⟨k + 1, L, some r, by omega, by go_num, ⟨Kd.R_alloc HL.out _⟩, ⟨_, rfl, blk_new _ _, HB.out.size⟩, ⟨below_alloc HB.out _⟩, HG2, ⟨fun x h => by cases h; exact HR64.out⟩⟩
          case measure => simp [intOf]; omega
        | some x =>
          have HG2 : Aside0 ((L ++ [Fl.gap r.f1 x.f1]) ++ gapsFrom c (some r) (l.drop (k + 1)) = gapsFrom c none l) := ⟨by have h := HG'.out; rw [gapsFrom_some hcl] at h; simpa using h⟩
          obtain ⟨gl, rfl, hbl, hgl⟩ := HA.out
          have hx := HO.out x rfl
          have hsub := fSub_run 30 _ _ _ (Fl.gap_ok r.f1 x.f1 HR64.out.1 HR64.out.2 hx.1 hx.2).1
          clear hcl hbl hx
          generalize Fl.gap r.f1 x.f1 = gp at *
          go_wp2_with (first
            | ((with_reducible refine gate_dst (N := 9) rfl ?_); refine box_event ?hg (N := 9) ?hd (cs := #[.int .i64 0, .int .i64 0, .int .i64 0, .int .i64 0, .int .i64 0, .bool false]) (t := 29) ?hr ?_; (case hd => rfl); (case hg => rfl); (case hr => first | (go_simp; done) | (go_simp; rfl)); intro gb hg w1 hbox hb; have HL1 := Aside0.mk (Kd.R_below HL.out hb); have HA1 := Aside0.mk (HA.out.below hb); have HB1 := Aside0.mk (below_step HB.out hb); have HGB : Aside0 (w.heap.size ≤ gb) := ⟨by rw [hg]; exact HB.out.size⟩; have HNE : Aside0 ((Value.slice (some ⟨gl, 0, none⟩) 1 1).ownBlock ≠ some gb) := ⟨by rw [hg]; exact HA.out.ne⟩; have BX := Aside0.mk hbox; clear HL HA HB hc0 hc1 hc2 hc3 hc4 hc5; clear hb hbox hg)
            | ((with_reducible refine gate_store (t := 29) (p := 9) rfl ?_); refine Lb.store_whole rfl rfl 29 (.tmp 9) (.tmp 17) rfl (new := cellsOf r) rfl rfl BX.out rfl (by kernel_rfl) (cellsOf_one r) ?_; intro w2 hb2 hg2; have HL := Aside0.mk (Lb.R_grown HL1.out hg2 BX.out (by decide)); have HA := Aside0.mk (HA1.out.grown hg2 HNE.out); have HB := Aside0.mk (Lb.grown_below HB1.out hg2 HB1.out.size HGB.out); clear BX HL1 HA1 HB1; have BX := Aside0.mk hb2; clear hb2 hg2; have z0 : w2.cell? ⟨gb, 0, none⟩ = some (.int .i64 r.f0) := (blk_cell BX.out 0).trans rfl; have z1 : w2.cell? ⟨gb, 1, none⟩ = some (.int .i64 r.f1) := (blk_cell BX.out 1).trans rfl; have z2 : w2.cell? ⟨gb, 2, none⟩ = some (.int .i64 r.f2) := (blk_cell BX.out 2).trans rfl; have z3 : w2.cell? ⟨gb, 3, none⟩ = some (.int .i64 r.f3) := (blk_cell BX.out 3).trans rfl; have z4 : w2.cell? ⟨gb, 4, none⟩ = some (.int .i64 r.f4) := (blk_cell BX.out 4).trans rfl; have z5 : w2.cell? ⟨gb, 5, none⟩ = some (.bool r.f5) := (blk_cell BX.out 5).trans rfl))
          obtain ⟨gl', egl, hbl, _⟩ := HA.out
          obtain rfl : gl = gl' := (Addr.mk.inj (Option.some.inj (Value.slice.inj egl).1)).1
          have y0 : w2.cell? ⟨gl, 0, none⟩ = some (.int .i64 x.f0) := (blk_cell hbl 0).trans rfl
          have y1 : w2.cell? ⟨gl, 1, none⟩ = some (.int .i64 x.f1) := (blk_cell hbl 1).trans rfl
          have y2 : w2.cell? ⟨gl, 2, none⟩ = some (.int .i64 x.f2) := (blk_cell hbl 2).trans rfl
          have y3 : w2.cell? ⟨gl, 3, none⟩ = some (.int .i64 x.f3) := (blk_cell hbl 3).trans rfl
          have y4 : w2.cell? ⟨gl, 4, none⟩ = some (.int .i64 x.f4) := (blk_cell hbl 4).trans rfl
          have y5 : w2.cell? ⟨gl, 5, none⟩ = some (.bool x.f5) := (blk_cell hbl 5).trans rfl
          have HLN : Aside0 (L.length < l.length) := ⟨by have h := congrArg List.length HG2.out; have h2 := gapsFrom_length c l none; simp at h; omega⟩
          clear HA hbl egl z0 z1 z2 z3 z4 z5
          refine wp_loop_rounds 2 ?_
          rw [rounds_succ]
          go_wp2_with (first
            | ((with_reducible refine gate_dst (N := 11) rfl ?_); refine box_event ?hg (N := 11) ?hd (cs := #[.int .i64 0, .int .i64 0, .int .i64 0, .int .i64 0, .int .i64 0, .bool false]) (t := 29) ?hr ?_; (case hd => rfl); (case hg => rfl); (case hr => first | (go_simp; done) | (go_simp; rfl)); intro gc hg w3 hbox hb; have HL3 := Aside0.mk (Kd.R_below HL.out hb); have HB3 := Aside0.mk (below_step HB.out hb); have HGC : Aside0 (w.heap.size ≤ gc) := ⟨by rw [hg]; exact HB.out.size⟩; have BX3 := Aside0.mk (Lb.blk_below BX.out hb); have HNC : Aside0 (gb ≠ gc) := ⟨by rw [hg]; have := blk_lt BX.out; omega⟩; have BY := Aside0.mk hbox; clear HL HB y0 y1 y2 y3 y4 y5; clear hb hbox hg)
            | ((with_reducible refine gate_store (t := 29) (p := 11) rfl ?_); refine Lb.store_whole rfl rfl 29 (.tmp 11) (.tmp 27) rfl (new := cellsOf x) rfl rfl BY.out rfl (by kernel_rfl) (cellsOf_one x) ?_; intro w4 hb4 hg4; have HL4 := Aside0.mk (Lb.R_grown HL3.out hg4 BY.out (by decide)); have BX4 := Aside0.mk (Lb.blk_grown' BX3.out hg4 HNC.out); have HB4 := Aside0.mk (Lb.grown_below HB3.out hg4 HB3.out.size HGC.out); clear HL3 BX3 HB3; clear BY; have BY := Aside0.mk hb4; clear hb4 hg4; have q0 : w4.cell? ⟨gb, 1, none⟩ = some (.int .i64 r.f1) := (blk_cell BX4.out 1).trans rfl; have q1 : w4.cell? ⟨gc, 1, none⟩ = some (.int .i64 x.f1) := (blk_cell BY.out 1).trans rfl)
            | ((with_reducible refine gate_builtin (b := .append) (xs := #[.tmp 28, .tmp 36]) rfl ?_); at_builtin; refine Kd.R_append kF (w0 := w) w.heap.size rfl (.tmp 28) (.tmp 36) 44 30 (.float .f64 0) 8 rfl Tryz.underlying44 info30 rfl (by decide) (by omega) u6 L gp [.float .f64 gp] (fun _ => True) (fun _ => False) rfl rfl ?aP (fun _ hk => hk.elim) (fun _ _ => trivial) ?aO ?aB ?aS ?aL ?_; (case aP => exact rfl); (case aO => exact HL4.out); (case aB => exact HB4.out); (case aS => exact HB4.out.size); (case aL => have := HLN.out; omega); intro v1 w5 hr5 hb5 hg5 _; have HL := Aside0.mk hr5; have HB := Aside0.mk hb5; have BX5 := Aside0.mk (blk_grown BX4.out hg5 (Kd.R_ne HL4.out BX4.out (by decide))); clear hr5 hb5 hg5 q0 q1; have z0 : w5.cell? ⟨gb, 0, none⟩ = some (.int .i64 r.f0) := (blk_cell BX5.out 0).trans rfl; have z1 : w5.cell? ⟨gb, 1, none⟩ = some (.int .i64 r.f1) := (blk_cell BX5.out 1).trans rfl; have z2 : w5.cell? ⟨gb, 2, none⟩ = some (.int .i64 r.f2) := (blk_cell BX5.out 2).trans rfl; have z3 : w5.cell? ⟨gb, 3, none⟩ = some (.int .i64 r.f3) := (blk_cell BX5.out 3).trans rfl; have z4 : w5.cell? ⟨gb, 4, none⟩ = some (.int .i64 r.f4) := (blk_cell BX5.out 4).trans rfl; have z5 : w5.cell? ⟨gb, 5, none⟩ = some (.bool r.f5) := (blk_cell BX5.out 5).trans rfl))
          rw [rounds_succ]
          go_wp2_with fail
          go_roundw
          case rel => exact ⟨k + 1, L ++ [gp], some r, by omega, by go_num, ⟨Kd.R_alloc HL.out _⟩, ⟨_, rfl, blk_new _ _, HB.out.size⟩, ⟨below_alloc HB.out _⟩, HG2, ⟨fun x h => by cases h; exact HR64.out⟩⟩
          case measure => simp [intOf]; omega
      · have hb0 : (r.f0 != c) = true := by simp [hcl]
        have HG2 : Aside0 (L ++ gapsFrom c last (l.drop (k + 1)) = gapsFrom c none l) := ⟨by have h := HG'.out; rw [gapsFrom_ne hcl] at h; exact h⟩
        clear hcl
        go_wp2_with (first
          | ((with_reducible refine gate_dst (N := 9) rfl ?_); refine box_event ?hg (N := 9) ?hd (cs := #[.int .i64 0, .int .i64 0, .int .i64 0, .int .i64 0, .int .i64 0, .bool false]) (t := 29) ?hr ?_; (case hd => rfl); (case hg => rfl); (case hr => first | (go_simp; done) | (go_simp; rfl)); intro gb hg w1 hbox hb; have HL1 := Aside0.mk (Kd.R_below HL.out hb); have HA1 := Aside0.mk (HA.out.below hb); have HB1 := Aside0.mk (below_step HB.out hb); have HGB : Aside0 (w.heap.size ≤ gb) := ⟨by rw [hg]; exact HB.out.size⟩; have HNE : Aside0 (u7.ownBlock ≠ some gb) := ⟨by rw [hg]; exact HA.out.ne⟩; have BX := Aside0.mk hbox; clear HL HA HB hc0 hc1 hc2 hc3 hc4 hc5; clear hb hbox hg)
          | ((with_reducible refine gate_store (t := 29) (p := 9) rfl ?_); refine Lb.store_whole rfl rfl 29 (.tmp 9) (.tmp 17) rfl (new := cellsOf r) rfl rfl BX.out rfl (by kernel_rfl) (cellsOf_one r) ?_; intro w2 hb2 hg2; have HL := Aside0.mk (Lb.R_grown HL1.out hg2 BX.out (by decide)); have HA := Aside0.mk (HA1.out.grown hg2 HNE.out); have HB := Aside0.mk (Lb.grown_below HB1.out hg2 HB1.out.size HGB.out); clear BX HL1 HA1 HB1; have BX := Aside0.mk hb2; clear hb2 hg2; have z0 : w2.cell? ⟨gb, 0, none⟩ = some (.int .i64 r.f0) := (blk_cell BX.out 0).trans rfl; have z1 : w2.cell? ⟨gb, 1, none⟩ = some (.int .i64 r.f1) := (blk_cell BX.out 1).trans rfl; have z2 : w2.cell? ⟨gb, 2, none⟩ = some (.int .i64 r.f2) := (blk_cell BX.out 2).trans rfl; have z3 : w2.cell? ⟨gb, 3, none⟩ = some (.int .i64 r.f3) := (blk_cell BX.out 3).trans rfl; have z4 : w2.cell? ⟨gb, 4, none⟩ = some (.int .i64 r.f4) := (blk_cell BX.out 4).trans rfl; have z5 : w2.cell? ⟨gb, 5, none⟩ = some (.bool r.f5) := (blk_cell BX.out 5).trans rfl))
        go_roundw
        case rel => exact ⟨k + 1, L, last, by omega, by go_num, HL, HA, HB, HG2, HO⟩
        case measure => simp [intOf]; omega
    · obtain rfl : k = l.length := by omega
      have hL : L = gapsFrom c none l := by have h := HG.out; rw [List.drop_length] at h; cases last <;> simpa [gapsFrom] using h
      subst hL
      obtain ⟨A6, c6, rfl, hc6, hC6⟩ := Kd.R_reads HL.out
      have hlen := gapsFrom_length c l none
      have HM := Lib.hid (mean_calls A6 c6 _ wr hC6 hc6 (by omega) (gapsFrom_good c l none H64.out (fun x h => by cases h)))
      clear hC6 HG HL
      generalize hG : gapsFrom c none l = G at *
      have HGG := Lib.hid hG
      clear hG
      go_wp2_with (go_at_call 11; refine HM.out.mono ?_; rintro e w' ⟨⟨b, rfl, hb⟩, rfl⟩)
      go_ret2
      rw [HGG.out]
      exact ⟨⟨b, rfl, hb⟩, HB.out⟩
end Go.Proofs.YtnmkgmfpnepmmaaGreatDoor.PA
