/- mount: MNT. -/
import Derived.Test.YthamffpieafkbaaGreatDoorMd
import Derived.StillTailTactics
namespace Go.Proofs.YthamffpieafkbaaGreatDoor.Mt
open Go.RowKit Go.Lib Go.Proofs.YthamffpieafkbaaGreatDoor.PM Go.Proofs.YthamffpieafkbaaGreatDoorW.PrintWords Go.Proofs.YthamffpieafkbaaGreatDoorW.PrintLast Go.Proofs.YthamffpieafkbaaGreatDoorW.PrintMore
set_option linter.unusedVariables false
set_option linter.unusedSimpArgs false

/-- a value handed back: numbers and texts; the table behind it -/
structure ValRes (B : Nat) (w : World) (g : Nat) (E : List Exp) (M' : List Held) (N : List Int) (T : List ByteArray) (e : Ending) (w' : World) : Prop where
  ex : ∃ vN vT, e = .returned (.agg #[vN, vT]) ∧ IntsAt w' vN N ∧ StrsAt w' vT T
  mt : MT B w' g E M'
  frm : FrM B w w'

/-- MNT of what is found: may this host? -/
def mayHost (e : Exp) (host : ByteArray) : Bool := e.hosts.isEmpty || hasS e.hosts host
theorem push_held {B : Nat} {w7 w8 w9 : World} {g : Nat} {E : List Exp} {M : List Held} {h : Held} {vE vM v8 : Value} (hg : w7.heap[g]? = some (.cells #[vE, vM] 60 (0, 0))) (hE : ExpsAt w7 B vE E) (hge : B ≤ g)
    (hA : App w7 w8 B 67 2 v8 (M.length + 1) (flatM M ++ [.string h.f0, .string h.f1])) (hb9 : w9.heap[g]? = some (.cells #[vE, v8] 60 (0, 0))) (hg9 : w8.grownBy w9 (some g)) (hB : B ≤ w7.heap.size) : MT B w9 g E (M ++ [h]) ∧ FrM B w7 w9 := by
  have hb8 := hA.keep g _ _ _ (by decide) hg
  have hk9 := types_blk hb8 hg9
  refine ⟨⟨⟨vE, v8, hb9, hE.keep (fun k cs t' f hr h1 h2 => hk9 _ _ _ _ h1 (hA.keep _ _ _ _ h2 hr)), ?_⟩, hge⟩, ⟨Lb.grown_below hA.bel hg9 (Nat.le_trans hB hA.size) hge, fun k cs t' f hr h1 h2 => hk9 _ _ _ _ h1 (hA.keep _ _ _ _ h2 hr)⟩⟩
  rw [flatM_app, List.length_append, List.length_singleton]
  exact own_keep hA.own (fun k cs f h => hk9 _ _ _ _ (by decide) h)
theorem MT.other {B : Nat} {w w' : World} {g r : Nat} {E : List Exp} {M : List Held} {cur : Array Value} {t : TypeId} {fr : Nat × Nat} (h : MT B w g E M) (hr : w.heap[r]? = some (.cells cur t fr)) (hg : w.grownBy w' (some r)) (h1 : 60 ≠ t) (h2 : 67 ≠ t) (h3 : 30 ≠ t) (h4 : 9 ≠ t) : MT B w' g E M := by
  obtain ⟨vE, vM, k1, ⟨vs, m1, m2, m3⟩, k3⟩ := h.ex
  have hk := types_blk hr hg
  exact ⟨⟨vE, vM, hk _ _ _ _ h1 k1, ⟨vs, m1, own_keep m2 (fun k cs f hx => hk _ _ _ _ h3 hx), fun i e v he hv => (m3 i e v he hv).keep (fun k cs f hx => hk _ _ _ _ h4 hx)⟩, own_keep k3 (fun k cs f hx => hk _ _ _ _ h2 hx)⟩, h.ge⟩

set_option maxRecDepth 100000 in
set_option maxHeartbeats 2000000 in
theorem mnt_none (B g : Nat) (E : List Exp) (M : List Held) (host path : ByteArray) (w : World) (h : MT B w g E M) (hel : E.length ≤ 1000000) (hix : idx (pathIs path) E 0 = -1) :
    Calls Tryz.prog 20 #[.pointer (some ⟨g, 0, none⟩), .agg #[.string host, .string path]] w fun e w' => ValRes B w g E M [2] [] e w' := by
  have HM := Aside0.mk h
  have HEL := Aside0.mk hel
  have HIX : Aside0 (idx (fun x : Exp => x.path.toList == path.toList) E 0 = -1) := ⟨hix⟩
  clear h hel hix
  go_enter Tryz.func20, Tryz.ntmps20
  go_wp2_with (first
    | ((with_reducible refine gate_dst (N := 3) rfl ?_); refine box_event ?hg (N := 3) ?hd (cs := #[.string host, .string path]) (t := 67) ?hr ?_; (case hd => rfl); (case hg => rfl); (case hr => first | (go_simp; done) | (go_simp; rfl)); intro g3 hg3 w1 hx hb; have HX3 := Aside0.mk hx; have HB1 := Aside0.mk hb; have HG3 := Aside0.mk hg3; clear hx hb hg3)
    | ((with_reducible refine gate_dst (N := 4) rfl ?_); refine box_event ?hg (N := 4) ?hd (cs := #[.slice none 0 0, .slice none 0 0]) (t := 40) ?hr ?_; (case hd => rfl); (case hg => rfl); (case hr => first | (go_simp; done) | (go_simp; rfl)); intro g4 hg4 w2 hx hb; have HX4 := Aside0.mk hx; have HX32 := Aside0.mk (Lb.blk_below HX3.out hb); have HB2 := Aside0.mk (below_step HB1.out hb); have HG4 := Aside0.mk (show w.heap.size ≤ g4 ∧ g3 ≠ g4 by have := HB1.out.size; have := HG3.out; have := blk_lt HX3.out; omega); have d0 := (blk_cell HX32.out 0).trans rfl; have d1 := (blk_cell HX32.out 1).trans rfl; clear hx hb hg4)
    | (go_at_call 18; (with_reducible refine (find_calls B g E M path w2 (HM.out.step HB2.out) HEL.out).mono ?_); rw [HIX.out]; rintro e3 w3 ⟨rfl, hb⟩; have HX33 := Aside0.mk (Lb.blk_below HX32.out hb); have HX43 := Aside0.mk (Lb.blk_below HX4.out hb); have HB3 := Aside0.mk (below_step HB2.out hb); clear d0 d1 hb)
    | ((with_reducible refine gate_dst (N := 14) rfl ?_); refine Lb.alloc_event ?hg (v := fun g => .slice (some ⟨g, 0, none⟩) 1 1) (cs := #[.int .i64 2]) (t := 3) (fr := (0, 0)) ?hr ?_; (case hg => rfl); (case hr => first | (go_simp; done) | (go_simp; rfl)); intro g5 hg5 w4 hx hb; have HX5 := Aside0.mk hx; have HX44 := Aside0.mk (Lb.blk_below HX43.out hb); have HB4 := Aside0.mk (below_step HB3.out hb); have HNE := Aside0.mk (show g5 ≠ g4 by have := blk_lt HX43.out; omega); clear hx hb hg5)
    | ((with_reducible refine gate_store (t := 40) (p := 4) rfl ?_); refine Lb.store_whole rfl rfl 40 (.tmp 4) (.tmp 15) rfl (new := #[.slice (some ⟨g5, 0, none⟩) 1 1, .slice none 0 0]) rfl rfl HX44.out rfl (by kernel_rfl) (by simp [Value.oneCell']) ?_; intro w5 hb hg; have HX45 := Aside0.mk hb; have HX55 := Aside0.mk (Lb.blk_grown' HX5.out hg HNE.out); have HB5 := Aside0.mk (Lb.grown_below HB4.out hg HB4.out.size HG4.out.1); clear hb hg))
  have v0 := (blk_cell HX45.out 0).trans rfl
  have v1 := (blk_cell HX45.out 1).trans rfl
  exact bodyPost_ret (v := .agg #[.slice (some ⟨g5, 0, none⟩) 1 1, .slice none 0 0]) (by simp [results, Tryz.results20, go_sem, v0, v1]) rfl ⟨⟨_, _, rfl, ints_blk [2] HX55.out, strs_nil _⟩, HM.out.step HB5.out, FrM.of HB5.out HM.out.lt⟩

theorem lt64 (n : Nat) : decide ((64 : Int) ≤ (n : Int)) = decide (64 ≤ n) := decide_eq_decide.2 (by omega)
set_option maxRecDepth 100000 in
set_option maxHeartbeats 20000000 in
theorem mnt_some0 (B g : Nat) (E : List Exp) (M : List Held) (host path : ByteArray) (i : Nat) (e : Exp) (w : World) (h : MT B w g E M) (hel : E.length ≤ 1000000) (hml : M.length ≤ 1000000) (hhl : e.hosts.length ≤ 100000000) (hix : idx (pathIs path) E 0 = i) (hi : E[i]? = some e)
    (M' : List Held) (N : List Int) (T : List ByteArray) (hM' : (if mayHost e host = true ∧ hasM M host path = false ∧ M.length < 64 then M ++ [⟨host, path⟩] else M) = M') (hN : (if mayHost e host = true ∧ (hasM M host path = true ∨ M.length < 64) then [0, 1, 1] else [13]) = N) (hT : (if mayHost e host = true ∧ (hasM M host path = true ∨ M.length < 64) then [e.handle] else []) = T) :
    Calls Tryz.prog 20 #[.pointer (some ⟨g, 0, none⟩), .agg #[.string host, .string path]] w fun r w' => ValRes B w g E M' N T r w' := by
  have HM := Aside0.mk h
  have HEL := Aside0.mk hel
  have HML := Aside0.mk hml
  have HIX : Aside0 (idx (fun x : Exp => x.path.toList == path.toList) E 0 = (i : Int)) := ⟨hix⟩
  obtain ⟨vE, vM, k1, hE, k3⟩ := h.ex
  obtain ⟨kE, capE, vH, rfl, c0, c1, c2, hst⟩ := hE.at i e hi
  obtain ⟨AM, cM, rfl, hcM, hCM⟩ := held_C k3 (by omega)
  obtain ⟨AH, cH, rfl, hcH, hCH⟩ := strs_C hst (by omega)
  have hlt : i < E.length := (List.getElem?_eq_some_iff.1 hi).1
  have hi0 : decide ((i : Int) < 0) = false := decide_eq_false (by omega)
  have hiE : (i : Int) < (E.length : Int) := by omega
  have K1 := Aside0.mk k1
  have K3 := Aside0.mk k3
  have KE := Aside0.mk hE
  have C0 := Aside0.mk c0
  have C1 := Aside0.mk c1
  have C2 := Aside0.mk c2
  have HCM := Aside0.mk hCM
  have HCH := Aside0.mk hCH
  have HcM := Aside0.mk hcM
  have HcH := Aside0.mk hcH
  have CM := Aside0.mk (containsM_f M host path (by omega))
  have CH := Aside0.mk (containsS_f e.hosts host (by omega))
  have hcase : (0 < e.hosts.length ∧ hasS e.hosts host = false) ∨ ((¬ 0 < e.hosts.length) ∧ hasM M host path = true) ∨ ((0 < e.hosts.length) ∧ hasS e.hosts host = true ∧ hasM M host path = true) ∨
      ((¬ 0 < e.hosts.length) ∧ hasM M host path = false ∧ ¬ M.length < 64) ∨ ((0 < e.hosts.length) ∧ hasS e.hosts host = true ∧ hasM M host path = false ∧ ¬ M.length < 64) ∨
      ((¬ 0 < e.hosts.length) ∧ hasM M host path = false ∧ M.length < 64) ∨ ((0 < e.hosts.length) ∧ hasS e.hosts host = true ∧ hasM M host path = false ∧ M.length < 64) := by
    cases hasS e.hosts host <;> cases hasM M host path <;> by_cases h0 : 0 < e.hosts.length <;> by_cases h64 : M.length < 64 <;> simp [h0, h64]
  clear h hel hml hhl hix hi k1 hE k3 c0 c1 c2 hst hcM hCM hcH hCH hlt
  rcases hcase with ⟨z1, z2⟩ | ⟨z1, z3⟩ | ⟨z1, z2, z3⟩ | ⟨z1, z3, z4⟩ | ⟨z1, z2, z3, z4⟩ | ⟨z1, z3, z4⟩ | ⟨z1, z2, z3, z4⟩
  · have y1 : decide ((0 : Int) < (e.hosts.length : Int)) = true := decide_eq_true (by omega)
    have y1n : decide (0 < e.hosts.length) = true := decide_eq_true z1
    have HMAY : Aside0 (mayHost e host = false) := ⟨by unfold mayHost; rw [z2]; cases hh : e.hosts with | nil => rw [hh] at z1; simp at z1 | cons a r => rfl⟩
    rw [z2] at CH
    obtain ⟨bt, hbt⟩ : ∃ bt, hasM M host path = bt := ⟨_, rfl⟩
    rw [hbt] at CM
    have e1 : ¬ (mayHost e host = true ∧ hasM M host path = false ∧ M.length < 64) := by rw [HMAY.out]; simp
    have e2 : ¬ (mayHost e host = true ∧ (hasM M host path = true ∨ M.length < 64)) := by rw [HMAY.out]; simp
    rw [if_neg e1] at hM'
    rw [if_neg e2] at hN hT
    subst hM' hN hT
    clear e1 e2
    clear z1 z2 hbt
    go_enter Tryz.func20, Tryz.ntmps20
    go_wp2_with (first
        | ((with_reducible refine gate_dst (N := 3) rfl ?_); refine box_event ?hg (N := 3) ?hd (cs := #[.string host, .string path]) (t := 67) ?hr ?_; (case hd => rfl); (case hg => rfl); (case hr => first | (go_simp; done) | (go_simp; rfl)); intro g3 hg3 w1 hx hb; have HX3 := Aside0.mk hx; have HB1 := Aside0.mk hb; have HG3 := Aside0.mk hg3; clear hx hb hg3)
        | ((with_reducible refine gate_dst (N := 4) rfl ?_); refine box_event ?hg (N := 4) ?hd (cs := #[.slice none 0 0, .slice none 0 0]) (t := 40) ?hr ?_; (case hd => rfl); (case hg => rfl); (case hr => first | (go_simp; done) | (go_simp; rfl)); intro g4 hg4 w2 hx hb; have HX4 := Aside0.mk hx; have HX32 := Aside0.mk (Lb.blk_below HX3.out hb); have HB2 := Aside0.mk (below_step HB1.out hb); have HG4 := Aside0.mk (show w.heap.size ≤ g4 ∧ g3 ≠ g4 by have := HB1.out.size; have := HG3.out; have := blk_lt HX3.out; omega); have d0 := (blk_cell HX32.out 0).trans rfl; have d1 := (blk_cell HX32.out 1).trans rfl; clear hx hb hg4)
        | (go_at_call 18; (with_reducible refine (find_calls B g E M path w2 (HM.out.step HB2.out) HEL.out).mono ?_); rw [HIX.out]; rintro e3 w3 ⟨rfl, hb⟩; have HX33 := Aside0.mk (Lb.blk_below HX32.out hb); have HX43 := Aside0.mk (Lb.blk_below HX4.out hb); have HB3 := Aside0.mk (below_step HB2.out hb); have ce := (blk_cell (Lb.blk_below K1.out HB3.out) 0).trans rfl; have c0 := Lib.Below.cellOf HB3.out C0.out (Nat.le_refl _); have c1 := Lib.Below.cellOf HB3.out C1.out (Nat.le_refl _); have c2 := Lib.Below.cellOf HB3.out C2.out (Nat.le_refl _); clear d0 d1 hb)
        | ((with_reducible refine gate_dst (N := 6) rfl ?_); refine box_event ?hg (N := 6) ?hd (cs := #[.string ⟨#[]⟩, .string ⟨#[]⟩, .slice none 0 0]) (t := 30) ?hr ?_; (case hd => rfl); (case hg => rfl); (case hr => first | (go_simp; done) | (go_simp; rfl)); intro g6 hg6 w4 hx hb; have HX6 := Aside0.mk hx; have HX34 := Aside0.mk (Lb.blk_below HX33.out hb); have HX44 := Aside0.mk (Lb.blk_below HX43.out hb); have HB4 := Aside0.mk (below_step HB3.out hb); have HG6 := Aside0.mk (show w.heap.size ≤ g6 ∧ g3 ≠ g6 ∧ g4 ≠ g6 by have := HB3.out.size; have := blk_lt HX33.out; have := blk_lt HX43.out; omega); clear ce c0 c1 c2; clear hx hb hg6)
        | ((with_reducible refine gate_store (t := 30) (p := 6) rfl ?_); refine Lb.store_whole rfl rfl 30 (.tmp 6) (.tmp 22) rfl (new := #[.string e.path, .string e.handle, .slice AH e.hosts.length cH]) rfl rfl HX6.out rfl (by kernel_rfl) (by simp [Value.oneCell']) ?_; intro w5 hb hg; have HX65 := Aside0.mk hb; have HX35 := Aside0.mk (Lb.blk_grown' HX34.out hg HG6.out.2.1); have HX45 := Aside0.mk (Lb.blk_grown' HX44.out hg HG6.out.2.2); have HB5 := Aside0.mk (Lb.grown_below HB4.out hg HB4.out.size HG6.out.1); have cm := (blk_cell (Lb.blk_below K1.out HB5.out) 1).trans rfl; have d0 := (blk_cell HX35.out 0).trans rfl; have d1 := (blk_cell HX35.out 1).trans rfl; clear hb hg))
    go_still_tail 5, (by kernel_rfl)
    change wpList _ _ _ _ _ w5.drew
    have HX66 := Aside0.mk (Lb.blk_below HX65.out (Lb.below_drew w5))
    have HX36 := Aside0.mk (Lb.blk_below HX35.out (Lb.below_drew w5))
    have HX46 := Aside0.mk (Lb.blk_below HX45.out (Lb.below_drew w5))
    have HB6 := Aside0.mk (below_step HB5.out (Lb.below_drew w5))
    clear cm d0 d1
    generalize w5.drew = w6 at HX66 HX36 HX46 HB6 ⊢
    go_wp2_with (first
        | (go_at_call 37; (with_reducible refine (mount_held_37.calls (M.length + 1) AM cM M host path bt w6 (Kd.C_below HCM.out HB6.out) HcM.out CM.out).mono ?_); rintro e7 w7 ⟨rfl, hb⟩; have HX67 := Aside0.mk (Lb.blk_below HX66.out hb); have HX37 := Aside0.mk (Lb.blk_below HX36.out hb); have HX47 := Aside0.mk (Lb.blk_below HX46.out hb); have HB7 := Aside0.mk (below_step HB6.out hb); have d2 := (blk_cell HX67.out 2).trans rfl; have d1 := (blk_cell HX67.out 1).trans rfl; have p0 := (blk_cell HX37.out 0).trans rfl; have cm := (blk_cell (Lb.blk_below K1.out HB7.out) 1).trans rfl; clear hb)
        | (go_at_call 38; (with_reducible refine (slices_Contains_string_string.calls (e.hosts.length + 1) AH cH e.hosts host false w7 (Kd.C_below HCH.out HB7.out) HcH.out CH.out).mono ?_); rintro e8 w8 ⟨rfl, hd⟩; have hb := hd.below; have HX68 := Aside0.mk (Lb.blk_below HX67.out hb); have HX38 := Aside0.mk (Lb.blk_below HX37.out hb); have HX48 := Aside0.mk (Lb.blk_below HX47.out hb); have HB8 := Aside0.mk (below_step HB7.out hb); clear d2 d1 p0 cm; have d2 := (blk_cell HX68.out 2).trans rfl; have d1 := (blk_cell HX68.out 1).trans rfl; have p0 := (blk_cell HX38.out 0).trans rfl; have cm := (blk_cell (Lb.blk_below K1.out HB8.out) 1).trans rfl; clear hb hd)
        | ((with_reducible refine gate_dst (N := 53) rfl ?_); refine Lb.alloc_event ?hg (v := fun g => .slice (some ⟨g, 0, none⟩) 1 1) (cs := #[.int .i64 13]) (t := 3) (fr := (0, 0)) ?hr ?_; (case hg => rfl); (case hr => first | (go_simp; done) | (go_simp; rfl)); intro g9 hg9 w9 hx hb; have HX9 := Aside0.mk hx; have HX49 := Aside0.mk (Lb.blk_below HX48.out hb); have HB9 := Aside0.mk (below_step HB8.out hb); have HNE := Aside0.mk (show g9 ≠ g4 by have := blk_lt HX48.out; omega); clear d2 d1 p0 cm; clear hx hb hg9)
        | ((with_reducible refine gate_store (t := 40) (p := 4) rfl ?_); refine Lb.store_whole rfl rfl 40 (.tmp 4) (.tmp 54) rfl (new := #[.slice (some ⟨g9, 0, none⟩) 1 1, .slice none 0 0]) rfl rfl HX49.out rfl (by kernel_rfl) (by simp [Value.oneCell']) ?_; intro w10 hb hg; have HXV := Aside0.mk hb; have HXN := Aside0.mk (Lb.blk_grown' HX9.out hg HNE.out); have HBV := Aside0.mk (Lb.grown_below HB9.out hg HB9.out.size HG4.out.1); clear hb hg))
    have v0 := (blk_cell HXV.out 0).trans rfl
    have v1 := (blk_cell HXV.out 1).trans rfl
    exact bodyPost_ret (v := .agg #[.slice (some ⟨g9, 0, none⟩) 1 1, .slice none 0 0]) (by simp [results, Tryz.results20, go_sem, v0, v1]) rfl ⟨⟨_, _, rfl, ints_blk [13] HXN.out, strs_nil _⟩, HM.out.step HBV.out, FrM.of HBV.out HM.out.lt⟩
  · have y1 : decide ((0 : Int) < (e.hosts.length : Int)) = false := decide_eq_false (by omega)
    have y1n : decide (0 < e.hosts.length) = false := decide_eq_false z1
    have HMAY : Aside0 (mayHost e host = true) := ⟨by unfold mayHost; cases hh : e.hosts with | nil => rfl | cons a r => rw [hh] at z1; simp at z1⟩
    have HTH := Aside0.mk z3
    rw [z3] at CM
    have e1 : ¬ (mayHost e host = true ∧ hasM M host path = false ∧ M.length < 64) := by rw [HTH.out]; simp
    have e2 : mayHost e host = true ∧ (hasM M host path = true ∨ M.length < 64) := ⟨HMAY.out, .inl HTH.out⟩
    rw [if_neg e1] at hM'
    rw [if_pos e2] at hN hT
    subst hM' hN hT
    clear e1 e2
    clear z1 z3
    go_enter Tryz.func20, Tryz.ntmps20
    go_wp2_with (first
        | ((with_reducible refine gate_dst (N := 3) rfl ?_); refine box_event ?hg (N := 3) ?hd (cs := #[.string host, .string path]) (t := 67) ?hr ?_; (case hd => rfl); (case hg => rfl); (case hr => first | (go_simp; done) | (go_simp; rfl)); intro g3 hg3 w1 hx hb; have HX3 := Aside0.mk hx; have HB1 := Aside0.mk hb; have HG3 := Aside0.mk hg3; clear hx hb hg3)
        | ((with_reducible refine gate_dst (N := 4) rfl ?_); refine box_event ?hg (N := 4) ?hd (cs := #[.slice none 0 0, .slice none 0 0]) (t := 40) ?hr ?_; (case hd => rfl); (case hg => rfl); (case hr => first | (go_simp; done) | (go_simp; rfl)); intro g4 hg4 w2 hx hb; have HX4 := Aside0.mk hx; have HX32 := Aside0.mk (Lb.blk_below HX3.out hb); have HB2 := Aside0.mk (below_step HB1.out hb); have HG4 := Aside0.mk (show w.heap.size ≤ g4 ∧ g3 ≠ g4 by have := HB1.out.size; have := HG3.out; have := blk_lt HX3.out; omega); have d0 := (blk_cell HX32.out 0).trans rfl; have d1 := (blk_cell HX32.out 1).trans rfl; clear hx hb hg4)
        | (go_at_call 18; (with_reducible refine (find_calls B g E M path w2 (HM.out.step HB2.out) HEL.out).mono ?_); rw [HIX.out]; rintro e3 w3 ⟨rfl, hb⟩; have HX33 := Aside0.mk (Lb.blk_below HX32.out hb); have HX43 := Aside0.mk (Lb.blk_below HX4.out hb); have HB3 := Aside0.mk (below_step HB2.out hb); have ce := (blk_cell (Lb.blk_below K1.out HB3.out) 0).trans rfl; have c0 := Lib.Below.cellOf HB3.out C0.out (Nat.le_refl _); have c1 := Lib.Below.cellOf HB3.out C1.out (Nat.le_refl _); have c2 := Lib.Below.cellOf HB3.out C2.out (Nat.le_refl _); clear d0 d1 hb)
        | ((with_reducible refine gate_dst (N := 6) rfl ?_); refine box_event ?hg (N := 6) ?hd (cs := #[.string ⟨#[]⟩, .string ⟨#[]⟩, .slice none 0 0]) (t := 30) ?hr ?_; (case hd => rfl); (case hg => rfl); (case hr => first | (go_simp; done) | (go_simp; rfl)); intro g6 hg6 w4 hx hb; have HX6 := Aside0.mk hx; have HX34 := Aside0.mk (Lb.blk_below HX33.out hb); have HX44 := Aside0.mk (Lb.blk_below HX43.out hb); have HB4 := Aside0.mk (below_step HB3.out hb); have HG6 := Aside0.mk (show w.heap.size ≤ g6 ∧ g3 ≠ g6 ∧ g4 ≠ g6 by have := HB3.out.size; have := blk_lt HX33.out; have := blk_lt HX43.out; omega); clear ce c0 c1 c2; clear hx hb hg6)
        | ((with_reducible refine gate_store (t := 30) (p := 6) rfl ?_); refine Lb.store_whole rfl rfl 30 (.tmp 6) (.tmp 22) rfl (new := #[.string e.path, .string e.handle, .slice AH e.hosts.length cH]) rfl rfl HX6.out rfl (by kernel_rfl) (by simp [Value.oneCell']) ?_; intro w5 hb hg; have HX65 := Aside0.mk hb; have HX35 := Aside0.mk (Lb.blk_grown' HX34.out hg HG6.out.2.1); have HX45 := Aside0.mk (Lb.blk_grown' HX44.out hg HG6.out.2.2); have HB5 := Aside0.mk (Lb.grown_below HB4.out hg HB4.out.size HG6.out.1); have cm := (blk_cell (Lb.blk_below K1.out HB5.out) 1).trans rfl; have d0 := (blk_cell HX35.out 0).trans rfl; have d1 := (blk_cell HX35.out 1).trans rfl; clear hb hg))
    go_still_tail 5, (by kernel_rfl)
    change wpList _ _ _ _ _ w5.drew
    have HX66 := Aside0.mk (Lb.blk_below HX65.out (Lb.below_drew w5))
    have HX36 := Aside0.mk (Lb.blk_below HX35.out (Lb.below_drew w5))
    have HX46 := Aside0.mk (Lb.blk_below HX45.out (Lb.below_drew w5))
    have HB6 := Aside0.mk (below_step HB5.out (Lb.below_drew w5))
    clear cm d0 d1
    generalize w5.drew = w6 at HX66 HX36 HX46 HB6 ⊢
    go_wp2_with (first
        | (go_at_call 37; (with_reducible refine (mount_held_37.calls (M.length + 1) AM cM M host path true w6 (Kd.C_below HCM.out HB6.out) HcM.out CM.out).mono ?_); rintro e7 w7 ⟨rfl, hb⟩; have HX67 := Aside0.mk (Lb.blk_below HX66.out hb); have HX37 := Aside0.mk (Lb.blk_below HX36.out hb); have HX47 := Aside0.mk (Lb.blk_below HX46.out hb); have HB7 := Aside0.mk (below_step HB6.out hb); have d2 := (blk_cell HX67.out 2).trans rfl; have d1 := (blk_cell HX67.out 1).trans rfl; have p0 := (blk_cell HX37.out 0).trans rfl; have cm := (blk_cell (Lb.blk_below K1.out HB7.out) 1).trans rfl; clear hb)
        | ((with_reducible refine gate_dst (N := 67) rfl ?_); refine Lb.alloc_event ?hg (v := fun g => .slice (some ⟨g, 0, none⟩) 3 3) (cs := #[.int .i64 0, .int .i64 1, .int .i64 1]) (t := 3) (fr := (0, 0)) ?hr ?_; (case hg => rfl); (case hr => first | (go_simp; done) | (go_simp; rfl)); intro g9 hg9 w9 hx hb; have HX9 := Aside0.mk hx; have HX49 := Aside0.mk (Lb.blk_below HX47.out hb); have HX69 := Aside0.mk (Lb.blk_below HX67.out hb); have HB9 := Aside0.mk hb; have HNE9 := Aside0.mk (show g9 ≠ g4 by have := blk_lt HX47.out; omega); clear d2 d1 p0 cm; have d1 := (blk_cell HX69.out 1).trans rfl; clear hx hb hg9)
        | ((with_reducible refine gate_dst (N := 70) rfl ?_); refine Lb.alloc_event ?hg (v := fun g => .slice (some ⟨g, 0, none⟩) 1 1) (cs := #[.string e.handle]) (t := 9) (fr := (0, 0)) ?hr ?_; (case hg => rfl); (case hr => first | (go_simp; done) | (go_simp; rfl)); intro g10 hg10 w10 hx hb; have HX10 := Aside0.mk hx; have HX910 := Aside0.mk (Lb.blk_below HX9.out hb); have HX410 := Aside0.mk (Lb.blk_below HX49.out hb); have HB10 := Aside0.mk (below_step HB9.out hb); have HNE10 := Aside0.mk (show g10 ≠ g4 by have := blk_lt HX49.out; omega); clear d1; clear hx hb hg10)
        | ((with_reducible refine gate_store (t := 40) (p := 4) rfl ?_); refine Lb.store_whole rfl rfl 40 (.tmp 4) (.tmp 71) rfl (new := #[.slice (some ⟨g9, 0, none⟩) 3 3, .slice (some ⟨g10, 0, none⟩) 1 1]) rfl rfl HX410.out rfl (by kernel_rfl) (by simp [Value.oneCell']) ?_; intro w11 hb hg; have HXV := Aside0.mk hb; have HXN := Aside0.mk (Lb.blk_grown' HX910.out hg HNE9.out); have HXT := Aside0.mk (Lb.blk_grown' HX10.out hg HNE10.out); have HGV := Aside0.mk hg; clear hb hg))
    have v0 := (blk_cell HXV.out 0).trans rfl
    have v1 := (blk_cell HXV.out 1).trans rfl
    have hbv := Lb.grown_below (HB7.out.trans (HB10.out.mono HB7.out.size)) HGV.out (Nat.le_trans HB7.out.size HB10.out.size) HG4.out.1
    exact bodyPost_ret (v := .agg #[.slice (some ⟨g9, 0, none⟩) 3 3, .slice (some ⟨g10, 0, none⟩) 1 1]) (by simp [results, Tryz.results20, go_sem, v0, v1]) rfl ⟨⟨_, _, rfl, ints_blk [0, 1, 1] HXN.out, strs_blk [e.handle] HXT.out⟩, HM.out.step hbv, FrM.of hbv HM.out.lt⟩
  · have y1 : decide ((0 : Int) < (e.hosts.length : Int)) = true := decide_eq_true (by omega)
    have y1n : decide (0 < e.hosts.length) = true := decide_eq_true z1
    have HMAY : Aside0 (mayHost e host = true) := ⟨by unfold mayHost; rw [z2]; cases hh : e.hosts with | nil => rw [hh] at z1; simp at z1 | cons a r => rfl⟩
    rw [z2] at CH
    have HTH := Aside0.mk z3
    rw [z3] at CM
    have e1 : ¬ (mayHost e host = true ∧ hasM M host path = false ∧ M.length < 64) := by rw [HTH.out]; simp
    have e2 : mayHost e host = true ∧ (hasM M host path = true ∨ M.length < 64) := ⟨HMAY.out, .inl HTH.out⟩
    rw [if_neg e1] at hM'
    rw [if_pos e2] at hN hT
    subst hM' hN hT
    clear e1 e2
    clear z1 z2 z3
    go_enter Tryz.func20, Tryz.ntmps20
    go_wp2_with (first
        | ((with_reducible refine gate_dst (N := 3) rfl ?_); refine box_event ?hg (N := 3) ?hd (cs := #[.string host, .string path]) (t := 67) ?hr ?_; (case hd => rfl); (case hg => rfl); (case hr => first | (go_simp; done) | (go_simp; rfl)); intro g3 hg3 w1 hx hb; have HX3 := Aside0.mk hx; have HB1 := Aside0.mk hb; have HG3 := Aside0.mk hg3; clear hx hb hg3)
        | ((with_reducible refine gate_dst (N := 4) rfl ?_); refine box_event ?hg (N := 4) ?hd (cs := #[.slice none 0 0, .slice none 0 0]) (t := 40) ?hr ?_; (case hd => rfl); (case hg => rfl); (case hr => first | (go_simp; done) | (go_simp; rfl)); intro g4 hg4 w2 hx hb; have HX4 := Aside0.mk hx; have HX32 := Aside0.mk (Lb.blk_below HX3.out hb); have HB2 := Aside0.mk (below_step HB1.out hb); have HG4 := Aside0.mk (show w.heap.size ≤ g4 ∧ g3 ≠ g4 by have := HB1.out.size; have := HG3.out; have := blk_lt HX3.out; omega); have d0 := (blk_cell HX32.out 0).trans rfl; have d1 := (blk_cell HX32.out 1).trans rfl; clear hx hb hg4)
        | (go_at_call 18; (with_reducible refine (find_calls B g E M path w2 (HM.out.step HB2.out) HEL.out).mono ?_); rw [HIX.out]; rintro e3 w3 ⟨rfl, hb⟩; have HX33 := Aside0.mk (Lb.blk_below HX32.out hb); have HX43 := Aside0.mk (Lb.blk_below HX4.out hb); have HB3 := Aside0.mk (below_step HB2.out hb); have ce := (blk_cell (Lb.blk_below K1.out HB3.out) 0).trans rfl; have c0 := Lib.Below.cellOf HB3.out C0.out (Nat.le_refl _); have c1 := Lib.Below.cellOf HB3.out C1.out (Nat.le_refl _); have c2 := Lib.Below.cellOf HB3.out C2.out (Nat.le_refl _); clear d0 d1 hb)
        | ((with_reducible refine gate_dst (N := 6) rfl ?_); refine box_event ?hg (N := 6) ?hd (cs := #[.string ⟨#[]⟩, .string ⟨#[]⟩, .slice none 0 0]) (t := 30) ?hr ?_; (case hd => rfl); (case hg => rfl); (case hr => first | (go_simp; done) | (go_simp; rfl)); intro g6 hg6 w4 hx hb; have HX6 := Aside0.mk hx; have HX34 := Aside0.mk (Lb.blk_below HX33.out hb); have HX44 := Aside0.mk (Lb.blk_below HX43.out hb); have HB4 := Aside0.mk (below_step HB3.out hb); have HG6 := Aside0.mk (show w.heap.size ≤ g6 ∧ g3 ≠ g6 ∧ g4 ≠ g6 by have := HB3.out.size; have := blk_lt HX33.out; have := blk_lt HX43.out; omega); clear ce c0 c1 c2; clear hx hb hg6)
        | ((with_reducible refine gate_store (t := 30) (p := 6) rfl ?_); refine Lb.store_whole rfl rfl 30 (.tmp 6) (.tmp 22) rfl (new := #[.string e.path, .string e.handle, .slice AH e.hosts.length cH]) rfl rfl HX6.out rfl (by kernel_rfl) (by simp [Value.oneCell']) ?_; intro w5 hb hg; have HX65 := Aside0.mk hb; have HX35 := Aside0.mk (Lb.blk_grown' HX34.out hg HG6.out.2.1); have HX45 := Aside0.mk (Lb.blk_grown' HX44.out hg HG6.out.2.2); have HB5 := Aside0.mk (Lb.grown_below HB4.out hg HB4.out.size HG6.out.1); have cm := (blk_cell (Lb.blk_below K1.out HB5.out) 1).trans rfl; have d0 := (blk_cell HX35.out 0).trans rfl; have d1 := (blk_cell HX35.out 1).trans rfl; clear hb hg))
    go_still_tail 5, (by kernel_rfl)
    change wpList _ _ _ _ _ w5.drew
    have HX66 := Aside0.mk (Lb.blk_below HX65.out (Lb.below_drew w5))
    have HX36 := Aside0.mk (Lb.blk_below HX35.out (Lb.below_drew w5))
    have HX46 := Aside0.mk (Lb.blk_below HX45.out (Lb.below_drew w5))
    have HB6 := Aside0.mk (below_step HB5.out (Lb.below_drew w5))
    clear cm d0 d1
    generalize w5.drew = w6 at HX66 HX36 HX46 HB6 ⊢
    go_wp2_with (first
        | (go_at_call 37; (with_reducible refine (mount_held_37.calls (M.length + 1) AM cM M host path true w6 (Kd.C_below HCM.out HB6.out) HcM.out CM.out).mono ?_); rintro e7 w7 ⟨rfl, hb⟩; have HX67 := Aside0.mk (Lb.blk_below HX66.out hb); have HX37 := Aside0.mk (Lb.blk_below HX36.out hb); have HX47 := Aside0.mk (Lb.blk_below HX46.out hb); have HB7 := Aside0.mk (below_step HB6.out hb); have d2 := (blk_cell HX67.out 2).trans rfl; have d1 := (blk_cell HX67.out 1).trans rfl; have p0 := (blk_cell HX37.out 0).trans rfl; have cm := (blk_cell (Lb.blk_below K1.out HB7.out) 1).trans rfl; clear hb)
        | (go_at_call 38; (with_reducible refine (slices_Contains_string_string.calls (e.hosts.length + 1) AH cH e.hosts host true w7 (Kd.C_below HCH.out HB7.out) HcH.out CH.out).mono ?_); rintro e8 w8 ⟨rfl, hd⟩; have hb := hd.below; have HX68 := Aside0.mk (Lb.blk_below HX67.out hb); have HX38 := Aside0.mk (Lb.blk_below HX37.out hb); have HX48 := Aside0.mk (Lb.blk_below HX47.out hb); have HB8 := Aside0.mk (below_step HB7.out hb); clear d2 d1 p0 cm; have d2 := (blk_cell HX68.out 2).trans rfl; have d1 := (blk_cell HX68.out 1).trans rfl; have p0 := (blk_cell HX38.out 0).trans rfl; have cm := (blk_cell (Lb.blk_below K1.out HB8.out) 1).trans rfl; clear hb hd)
        | ((with_reducible refine gate_dst (N := 67) rfl ?_); refine Lb.alloc_event ?hg (v := fun g => .slice (some ⟨g, 0, none⟩) 3 3) (cs := #[.int .i64 0, .int .i64 1, .int .i64 1]) (t := 3) (fr := (0, 0)) ?hr ?_; (case hg => rfl); (case hr => first | (go_simp; done) | (go_simp; rfl)); intro g9 hg9 w9 hx hb; have HX9 := Aside0.mk hx; have HX49 := Aside0.mk (Lb.blk_below HX48.out hb); have HX69 := Aside0.mk (Lb.blk_below HX68.out hb); have HB9 := Aside0.mk hb; have HNE9 := Aside0.mk (show g9 ≠ g4 by have := blk_lt HX48.out; omega); clear d2 d1 p0 cm; have d1 := (blk_cell HX69.out 1).trans rfl; clear hx hb hg9)
        | ((with_reducible refine gate_dst (N := 70) rfl ?_); refine Lb.alloc_event ?hg (v := fun g => .slice (some ⟨g, 0, none⟩) 1 1) (cs := #[.string e.handle]) (t := 9) (fr := (0, 0)) ?hr ?_; (case hg => rfl); (case hr => first | (go_simp; done) | (go_simp; rfl)); intro g10 hg10 w10 hx hb; have HX10 := Aside0.mk hx; have HX910 := Aside0.mk (Lb.blk_below HX9.out hb); have HX410 := Aside0.mk (Lb.blk_below HX49.out hb); have HB10 := Aside0.mk (below_step HB9.out hb); have HNE10 := Aside0.mk (show g10 ≠ g4 by have := blk_lt HX49.out; omega); clear d1; clear hx hb hg10)
        | ((with_reducible refine gate_store (t := 40) (p := 4) rfl ?_); refine Lb.store_whole rfl rfl 40 (.tmp 4) (.tmp 71) rfl (new := #[.slice (some ⟨g9, 0, none⟩) 3 3, .slice (some ⟨g10, 0, none⟩) 1 1]) rfl rfl HX410.out rfl (by kernel_rfl) (by simp [Value.oneCell']) ?_; intro w11 hb hg; have HXV := Aside0.mk hb; have HXN := Aside0.mk (Lb.blk_grown' HX910.out hg HNE9.out); have HXT := Aside0.mk (Lb.blk_grown' HX10.out hg HNE10.out); have HGV := Aside0.mk hg; clear hb hg))
    have v0 := (blk_cell HXV.out 0).trans rfl
    have v1 := (blk_cell HXV.out 1).trans rfl
    have hbv := Lb.grown_below (HB8.out.trans (HB10.out.mono HB8.out.size)) HGV.out (Nat.le_trans HB8.out.size HB10.out.size) HG4.out.1
    exact bodyPost_ret (v := .agg #[.slice (some ⟨g9, 0, none⟩) 3 3, .slice (some ⟨g10, 0, none⟩) 1 1]) (by simp [results, Tryz.results20, go_sem, v0, v1]) rfl ⟨⟨_, _, rfl, ints_blk [0, 1, 1] HXN.out, strs_blk [e.handle] HXT.out⟩, HM.out.step hbv, FrM.of hbv HM.out.lt⟩
  · have y1 : decide ((0 : Int) < (e.hosts.length : Int)) = false := decide_eq_false (by omega)
    have y1n : decide (0 < e.hosts.length) = false := decide_eq_false z1
    have HMAY : Aside0 (mayHost e host = true) := ⟨by unfold mayHost; cases hh : e.hosts with | nil => rfl | cons a r => rw [hh] at z1; simp at z1⟩
    have HTH := Aside0.mk z3
    rw [z3] at CM
    have y4 : decide ((64 : Int) ≤ (M.length : Int)) = true := decide_eq_true (by omega)
    have y4n : decide (64 ≤ M.length) = true := decide_eq_true (by omega)
    have HZ4 := Aside0.mk z4
    have e1 : ¬ (mayHost e host = true ∧ hasM M host path = false ∧ M.length < 64) := by have := HZ4.out; omega
    have e2 : ¬ (mayHost e host = true ∧ (hasM M host path = true ∨ M.length < 64)) := by rw [HTH.out]; have := HZ4.out; simp; omega
    rw [if_neg e1] at hM'
    rw [if_neg e2] at hN hT
    subst hM' hN hT
    clear e1 e2
    clear z1 z3 z4
    go_enter Tryz.func20, Tryz.ntmps20
    go_wp2_with (first
        | ((with_reducible refine gate_dst (N := 3) rfl ?_); refine box_event ?hg (N := 3) ?hd (cs := #[.string host, .string path]) (t := 67) ?hr ?_; (case hd => rfl); (case hg => rfl); (case hr => first | (go_simp; done) | (go_simp; rfl)); intro g3 hg3 w1 hx hb; have HX3 := Aside0.mk hx; have HB1 := Aside0.mk hb; have HG3 := Aside0.mk hg3; clear hx hb hg3)
        | ((with_reducible refine gate_dst (N := 4) rfl ?_); refine box_event ?hg (N := 4) ?hd (cs := #[.slice none 0 0, .slice none 0 0]) (t := 40) ?hr ?_; (case hd => rfl); (case hg => rfl); (case hr => first | (go_simp; done) | (go_simp; rfl)); intro g4 hg4 w2 hx hb; have HX4 := Aside0.mk hx; have HX32 := Aside0.mk (Lb.blk_below HX3.out hb); have HB2 := Aside0.mk (below_step HB1.out hb); have HG4 := Aside0.mk (show w.heap.size ≤ g4 ∧ g3 ≠ g4 by have := HB1.out.size; have := HG3.out; have := blk_lt HX3.out; omega); have d0 := (blk_cell HX32.out 0).trans rfl; have d1 := (blk_cell HX32.out 1).trans rfl; clear hx hb hg4)
        | (go_at_call 18; (with_reducible refine (find_calls B g E M path w2 (HM.out.step HB2.out) HEL.out).mono ?_); rw [HIX.out]; rintro e3 w3 ⟨rfl, hb⟩; have HX33 := Aside0.mk (Lb.blk_below HX32.out hb); have HX43 := Aside0.mk (Lb.blk_below HX4.out hb); have HB3 := Aside0.mk (below_step HB2.out hb); have ce := (blk_cell (Lb.blk_below K1.out HB3.out) 0).trans rfl; have c0 := Lib.Below.cellOf HB3.out C0.out (Nat.le_refl _); have c1 := Lib.Below.cellOf HB3.out C1.out (Nat.le_refl _); have c2 := Lib.Below.cellOf HB3.out C2.out (Nat.le_refl _); clear d0 d1 hb)
        | ((with_reducible refine gate_dst (N := 6) rfl ?_); refine box_event ?hg (N := 6) ?hd (cs := #[.string ⟨#[]⟩, .string ⟨#[]⟩, .slice none 0 0]) (t := 30) ?hr ?_; (case hd => rfl); (case hg => rfl); (case hr => first | (go_simp; done) | (go_simp; rfl)); intro g6 hg6 w4 hx hb; have HX6 := Aside0.mk hx; have HX34 := Aside0.mk (Lb.blk_below HX33.out hb); have HX44 := Aside0.mk (Lb.blk_below HX43.out hb); have HB4 := Aside0.mk (below_step HB3.out hb); have HG6 := Aside0.mk (show w.heap.size ≤ g6 ∧ g3 ≠ g6 ∧ g4 ≠ g6 by have := HB3.out.size; have := blk_lt HX33.out; have := blk_lt HX43.out; omega); clear ce c0 c1 c2; clear hx hb hg6)
        | ((with_reducible refine gate_store (t := 30) (p := 6) rfl ?_); refine Lb.store_whole rfl rfl 30 (.tmp 6) (.tmp 22) rfl (new := #[.string e.path, .string e.handle, .slice AH e.hosts.length cH]) rfl rfl HX6.out rfl (by kernel_rfl) (by simp [Value.oneCell']) ?_; intro w5 hb hg; have HX65 := Aside0.mk hb; have HX35 := Aside0.mk (Lb.blk_grown' HX34.out hg HG6.out.2.1); have HX45 := Aside0.mk (Lb.blk_grown' HX44.out hg HG6.out.2.2); have HB5 := Aside0.mk (Lb.grown_below HB4.out hg HB4.out.size HG6.out.1); have cm := (blk_cell (Lb.blk_below K1.out HB5.out) 1).trans rfl; have d0 := (blk_cell HX35.out 0).trans rfl; have d1 := (blk_cell HX35.out 1).trans rfl; clear hb hg))
    go_still_tail 5, (by kernel_rfl)
    change wpList _ _ _ _ _ w5.drew
    have HX66 := Aside0.mk (Lb.blk_below HX65.out (Lb.below_drew w5))
    have HX36 := Aside0.mk (Lb.blk_below HX35.out (Lb.below_drew w5))
    have HX46 := Aside0.mk (Lb.blk_below HX45.out (Lb.below_drew w5))
    have HB6 := Aside0.mk (below_step HB5.out (Lb.below_drew w5))
    clear cm d0 d1
    generalize w5.drew = w6 at HX66 HX36 HX46 HB6 ⊢
    go_wp2_with (first
        | (go_at_call 37; (with_reducible refine (mount_held_37.calls (M.length + 1) AM cM M host path false w6 (Kd.C_below HCM.out HB6.out) HcM.out CM.out).mono ?_); rintro e7 w7 ⟨rfl, hb⟩; have HX67 := Aside0.mk (Lb.blk_below HX66.out hb); have HX37 := Aside0.mk (Lb.blk_below HX36.out hb); have HX47 := Aside0.mk (Lb.blk_below HX46.out hb); have HB7 := Aside0.mk (below_step HB6.out hb); have d2 := (blk_cell HX67.out 2).trans rfl; have d1 := (blk_cell HX67.out 1).trans rfl; have p0 := (blk_cell HX37.out 0).trans rfl; have cm := (blk_cell (Lb.blk_below K1.out HB7.out) 1).trans rfl; clear hb)
        | ((with_reducible refine gate_dst (N := 53) rfl ?_); refine Lb.alloc_event ?hg (v := fun g => .slice (some ⟨g, 0, none⟩) 1 1) (cs := #[.int .i64 13]) (t := 3) (fr := (0, 0)) ?hr ?_; (case hg => rfl); (case hr => first | (go_simp; done) | (go_simp; rfl)); intro g9 hg9 w9 hx hb; have HX9 := Aside0.mk hx; have HX49 := Aside0.mk (Lb.blk_below HX47.out hb); have HB9 := Aside0.mk (below_step HB7.out hb); have HNE := Aside0.mk (show g9 ≠ g4 by have := blk_lt HX47.out; omega); clear d2 d1 p0 cm; clear hx hb hg9)
        | ((with_reducible refine gate_store (t := 40) (p := 4) rfl ?_); refine Lb.store_whole rfl rfl 40 (.tmp 4) (.tmp 54) rfl (new := #[.slice (some ⟨g9, 0, none⟩) 1 1, .slice none 0 0]) rfl rfl HX49.out rfl (by kernel_rfl) (by simp [Value.oneCell']) ?_; intro w10 hb hg; have HXV := Aside0.mk hb; have HXN := Aside0.mk (Lb.blk_grown' HX9.out hg HNE.out); have HBV := Aside0.mk (Lb.grown_below HB9.out hg HB9.out.size HG4.out.1); clear hb hg))
    have v0 := (blk_cell HXV.out 0).trans rfl
    have v1 := (blk_cell HXV.out 1).trans rfl
    exact bodyPost_ret (v := .agg #[.slice (some ⟨g9, 0, none⟩) 1 1, .slice none 0 0]) (by simp [results, Tryz.results20, go_sem, v0, v1]) rfl ⟨⟨_, _, rfl, ints_blk [13] HXN.out, strs_nil _⟩, HM.out.step HBV.out, FrM.of HBV.out HM.out.lt⟩
  · have y1 : decide ((0 : Int) < (e.hosts.length : Int)) = true := decide_eq_true (by omega)
    have y1n : decide (0 < e.hosts.length) = true := decide_eq_true z1
    have HMAY : Aside0 (mayHost e host = true) := ⟨by unfold mayHost; rw [z2]; cases hh : e.hosts with | nil => rw [hh] at z1; simp at z1 | cons a r => rfl⟩
    rw [z2] at CH
    have HTH := Aside0.mk z3
    rw [z3] at CM
    have y4 : decide ((64 : Int) ≤ (M.length : Int)) = true := decide_eq_true (by omega)
    have y4n : decide (64 ≤ M.length) = true := decide_eq_true (by omega)
    have HZ4 := Aside0.mk z4
    have e1 : ¬ (mayHost e host = true ∧ hasM M host path = false ∧ M.length < 64) := by have := HZ4.out; omega
    have e2 : ¬ (mayHost e host = true ∧ (hasM M host path = true ∨ M.length < 64)) := by rw [HTH.out]; have := HZ4.out; simp; omega
    rw [if_neg e1] at hM'
    rw [if_neg e2] at hN hT
    subst hM' hN hT
    clear e1 e2
    clear z1 z2 z3 z4
    go_enter Tryz.func20, Tryz.ntmps20
    go_wp2_with (first
        | ((with_reducible refine gate_dst (N := 3) rfl ?_); refine box_event ?hg (N := 3) ?hd (cs := #[.string host, .string path]) (t := 67) ?hr ?_; (case hd => rfl); (case hg => rfl); (case hr => first | (go_simp; done) | (go_simp; rfl)); intro g3 hg3 w1 hx hb; have HX3 := Aside0.mk hx; have HB1 := Aside0.mk hb; have HG3 := Aside0.mk hg3; clear hx hb hg3)
        | ((with_reducible refine gate_dst (N := 4) rfl ?_); refine box_event ?hg (N := 4) ?hd (cs := #[.slice none 0 0, .slice none 0 0]) (t := 40) ?hr ?_; (case hd => rfl); (case hg => rfl); (case hr => first | (go_simp; done) | (go_simp; rfl)); intro g4 hg4 w2 hx hb; have HX4 := Aside0.mk hx; have HX32 := Aside0.mk (Lb.blk_below HX3.out hb); have HB2 := Aside0.mk (below_step HB1.out hb); have HG4 := Aside0.mk (show w.heap.size ≤ g4 ∧ g3 ≠ g4 by have := HB1.out.size; have := HG3.out; have := blk_lt HX3.out; omega); have d0 := (blk_cell HX32.out 0).trans rfl; have d1 := (blk_cell HX32.out 1).trans rfl; clear hx hb hg4)
        | (go_at_call 18; (with_reducible refine (find_calls B g E M path w2 (HM.out.step HB2.out) HEL.out).mono ?_); rw [HIX.out]; rintro e3 w3 ⟨rfl, hb⟩; have HX33 := Aside0.mk (Lb.blk_below HX32.out hb); have HX43 := Aside0.mk (Lb.blk_below HX4.out hb); have HB3 := Aside0.mk (below_step HB2.out hb); have ce := (blk_cell (Lb.blk_below K1.out HB3.out) 0).trans rfl; have c0 := Lib.Below.cellOf HB3.out C0.out (Nat.le_refl _); have c1 := Lib.Below.cellOf HB3.out C1.out (Nat.le_refl _); have c2 := Lib.Below.cellOf HB3.out C2.out (Nat.le_refl _); clear d0 d1 hb)
        | ((with_reducible refine gate_dst (N := 6) rfl ?_); refine box_event ?hg (N := 6) ?hd (cs := #[.string ⟨#[]⟩, .string ⟨#[]⟩, .slice none 0 0]) (t := 30) ?hr ?_; (case hd => rfl); (case hg => rfl); (case hr => first | (go_simp; done) | (go_simp; rfl)); intro g6 hg6 w4 hx hb; have HX6 := Aside0.mk hx; have HX34 := Aside0.mk (Lb.blk_below HX33.out hb); have HX44 := Aside0.mk (Lb.blk_below HX43.out hb); have HB4 := Aside0.mk (below_step HB3.out hb); have HG6 := Aside0.mk (show w.heap.size ≤ g6 ∧ g3 ≠ g6 ∧ g4 ≠ g6 by have := HB3.out.size; have := blk_lt HX33.out; have := blk_lt HX43.out; omega); clear ce c0 c1 c2; clear hx hb hg6)
        | ((with_reducible refine gate_store (t := 30) (p := 6) rfl ?_); refine Lb.store_whole rfl rfl 30 (.tmp 6) (.tmp 22) rfl (new := #[.string e.path, .string e.handle, .slice AH e.hosts.length cH]) rfl rfl HX6.out rfl (by kernel_rfl) (by simp [Value.oneCell']) ?_; intro w5 hb hg; have HX65 := Aside0.mk hb; have HX35 := Aside0.mk (Lb.blk_grown' HX34.out hg HG6.out.2.1); have HX45 := Aside0.mk (Lb.blk_grown' HX44.out hg HG6.out.2.2); have HB5 := Aside0.mk (Lb.grown_below HB4.out hg HB4.out.size HG6.out.1); have cm := (blk_cell (Lb.blk_below K1.out HB5.out) 1).trans rfl; have d0 := (blk_cell HX35.out 0).trans rfl; have d1 := (blk_cell HX35.out 1).trans rfl; clear hb hg))
    go_still_tail 5, (by kernel_rfl)
    change wpList _ _ _ _ _ w5.drew
    have HX66 := Aside0.mk (Lb.blk_below HX65.out (Lb.below_drew w5))
    have HX36 := Aside0.mk (Lb.blk_below HX35.out (Lb.below_drew w5))
    have HX46 := Aside0.mk (Lb.blk_below HX45.out (Lb.below_drew w5))
    have HB6 := Aside0.mk (below_step HB5.out (Lb.below_drew w5))
    clear cm d0 d1
    generalize w5.drew = w6 at HX66 HX36 HX46 HB6 ⊢
    go_wp2_with (first
        | (go_at_call 37; (with_reducible refine (mount_held_37.calls (M.length + 1) AM cM M host path false w6 (Kd.C_below HCM.out HB6.out) HcM.out CM.out).mono ?_); rintro e7 w7 ⟨rfl, hb⟩; have HX67 := Aside0.mk (Lb.blk_below HX66.out hb); have HX37 := Aside0.mk (Lb.blk_below HX36.out hb); have HX47 := Aside0.mk (Lb.blk_below HX46.out hb); have HB7 := Aside0.mk (below_step HB6.out hb); have d2 := (blk_cell HX67.out 2).trans rfl; have d1 := (blk_cell HX67.out 1).trans rfl; have p0 := (blk_cell HX37.out 0).trans rfl; have cm := (blk_cell (Lb.blk_below K1.out HB7.out) 1).trans rfl; clear hb)
        | (go_at_call 38; (with_reducible refine (slices_Contains_string_string.calls (e.hosts.length + 1) AH cH e.hosts host true w7 (Kd.C_below HCH.out HB7.out) HcH.out CH.out).mono ?_); rintro e8 w8 ⟨rfl, hd⟩; have hb := hd.below; have HX68 := Aside0.mk (Lb.blk_below HX67.out hb); have HX38 := Aside0.mk (Lb.blk_below HX37.out hb); have HX48 := Aside0.mk (Lb.blk_below HX47.out hb); have HB8 := Aside0.mk (below_step HB7.out hb); clear d2 d1 p0 cm; have d2 := (blk_cell HX68.out 2).trans rfl; have d1 := (blk_cell HX68.out 1).trans rfl; have p0 := (blk_cell HX38.out 0).trans rfl; have cm := (blk_cell (Lb.blk_below K1.out HB8.out) 1).trans rfl; clear hb hd)
        | ((with_reducible refine gate_dst (N := 53) rfl ?_); refine Lb.alloc_event ?hg (v := fun g => .slice (some ⟨g, 0, none⟩) 1 1) (cs := #[.int .i64 13]) (t := 3) (fr := (0, 0)) ?hr ?_; (case hg => rfl); (case hr => first | (go_simp; done) | (go_simp; rfl)); intro g9 hg9 w9 hx hb; have HX9 := Aside0.mk hx; have HX49 := Aside0.mk (Lb.blk_below HX48.out hb); have HB9 := Aside0.mk (below_step HB8.out hb); have HNE := Aside0.mk (show g9 ≠ g4 by have := blk_lt HX48.out; omega); clear d2 d1 p0 cm; clear hx hb hg9)
        | ((with_reducible refine gate_store (t := 40) (p := 4) rfl ?_); refine Lb.store_whole rfl rfl 40 (.tmp 4) (.tmp 54) rfl (new := #[.slice (some ⟨g9, 0, none⟩) 1 1, .slice none 0 0]) rfl rfl HX49.out rfl (by kernel_rfl) (by simp [Value.oneCell']) ?_; intro w10 hb hg; have HXV := Aside0.mk hb; have HXN := Aside0.mk (Lb.blk_grown' HX9.out hg HNE.out); have HBV := Aside0.mk (Lb.grown_below HB9.out hg HB9.out.size HG4.out.1); clear hb hg))
    have v0 := (blk_cell HXV.out 0).trans rfl
    have v1 := (blk_cell HXV.out 1).trans rfl
    exact bodyPost_ret (v := .agg #[.slice (some ⟨g9, 0, none⟩) 1 1, .slice none 0 0]) (by simp [results, Tryz.results20, go_sem, v0, v1]) rfl ⟨⟨_, _, rfl, ints_blk [13] HXN.out, strs_nil _⟩, HM.out.step HBV.out, FrM.of HBV.out HM.out.lt⟩
  · have y1 : decide ((0 : Int) < (e.hosts.length : Int)) = false := decide_eq_false (by omega)
    have y1n : decide (0 < e.hosts.length) = false := decide_eq_false z1
    have HMAY : Aside0 (mayHost e host = true) := ⟨by unfold mayHost; cases hh : e.hosts with | nil => rfl | cons a r => rw [hh] at z1; simp at z1⟩
    have HTH := Aside0.mk z3
    rw [z3] at CM
    have y4 : decide ((64 : Int) ≤ (M.length : Int)) = false := decide_eq_false (by omega)
    have y4n : decide (64 ≤ M.length) = false := decide_eq_false (by omega)
    have HZ4 := Aside0.mk z4
    have e1 : mayHost e host = true ∧ hasM M host path = false ∧ M.length < 64 := ⟨HMAY.out, HTH.out, HZ4.out⟩
    have e2 : mayHost e host = true ∧ (hasM M host path = true ∨ M.length < 64) := ⟨HMAY.out, .inr HZ4.out⟩
    rw [if_pos e1] at hM'
    rw [if_pos e2] at hN hT
    subst hM' hN hT
    clear e1 e2
    clear z1 z3 z4
    go_enter Tryz.func20, Tryz.ntmps20
    go_wp2_with (first
        | ((with_reducible refine gate_dst (N := 3) rfl ?_); refine box_event ?hg (N := 3) ?hd (cs := #[.string host, .string path]) (t := 67) ?hr ?_; (case hd => rfl); (case hg => rfl); (case hr => first | (go_simp; done) | (go_simp; rfl)); intro g3 hg3 w1 hx hb; have HX3 := Aside0.mk hx; have HB1 := Aside0.mk hb; have HG3 := Aside0.mk hg3; clear hx hb hg3)
        | ((with_reducible refine gate_dst (N := 4) rfl ?_); refine box_event ?hg (N := 4) ?hd (cs := #[.slice none 0 0, .slice none 0 0]) (t := 40) ?hr ?_; (case hd => rfl); (case hg => rfl); (case hr => first | (go_simp; done) | (go_simp; rfl)); intro g4 hg4 w2 hx hb; have HX4 := Aside0.mk hx; have HX32 := Aside0.mk (Lb.blk_below HX3.out hb); have HB2 := Aside0.mk (below_step HB1.out hb); have HG4 := Aside0.mk (show w.heap.size ≤ g4 ∧ g3 ≠ g4 by have := HB1.out.size; have := HG3.out; have := blk_lt HX3.out; omega); have d0 := (blk_cell HX32.out 0).trans rfl; have d1 := (blk_cell HX32.out 1).trans rfl; clear hx hb hg4)
        | (go_at_call 18; (with_reducible refine (find_calls B g E M path w2 (HM.out.step HB2.out) HEL.out).mono ?_); rw [HIX.out]; rintro e3 w3 ⟨rfl, hb⟩; have HX33 := Aside0.mk (Lb.blk_below HX32.out hb); have HX43 := Aside0.mk (Lb.blk_below HX4.out hb); have HB3 := Aside0.mk (below_step HB2.out hb); have ce := (blk_cell (Lb.blk_below K1.out HB3.out) 0).trans rfl; have c0 := Lib.Below.cellOf HB3.out C0.out (Nat.le_refl _); have c1 := Lib.Below.cellOf HB3.out C1.out (Nat.le_refl _); have c2 := Lib.Below.cellOf HB3.out C2.out (Nat.le_refl _); clear d0 d1 hb)
        | ((with_reducible refine gate_dst (N := 6) rfl ?_); refine box_event ?hg (N := 6) ?hd (cs := #[.string ⟨#[]⟩, .string ⟨#[]⟩, .slice none 0 0]) (t := 30) ?hr ?_; (case hd => rfl); (case hg => rfl); (case hr => first | (go_simp; done) | (go_simp; rfl)); intro g6 hg6 w4 hx hb; have HX6 := Aside0.mk hx; have HX34 := Aside0.mk (Lb.blk_below HX33.out hb); have HX44 := Aside0.mk (Lb.blk_below HX43.out hb); have HB4 := Aside0.mk (below_step HB3.out hb); have HG6 := Aside0.mk (show w.heap.size ≤ g6 ∧ g3 ≠ g6 ∧ g4 ≠ g6 by have := HB3.out.size; have := blk_lt HX33.out; have := blk_lt HX43.out; omega); clear ce c0 c1 c2; clear hx hb hg6)
        | ((with_reducible refine gate_store (t := 30) (p := 6) rfl ?_); refine Lb.store_whole rfl rfl 30 (.tmp 6) (.tmp 22) rfl (new := #[.string e.path, .string e.handle, .slice AH e.hosts.length cH]) rfl rfl HX6.out rfl (by kernel_rfl) (by simp [Value.oneCell']) ?_; intro w5 hb hg; have HX65 := Aside0.mk hb; have HX35 := Aside0.mk (Lb.blk_grown' HX34.out hg HG6.out.2.1); have HX45 := Aside0.mk (Lb.blk_grown' HX44.out hg HG6.out.2.2); have HB5 := Aside0.mk (Lb.grown_below HB4.out hg HB4.out.size HG6.out.1); have cm := (blk_cell (Lb.blk_below K1.out HB5.out) 1).trans rfl; have d0 := (blk_cell HX35.out 0).trans rfl; have d1 := (blk_cell HX35.out 1).trans rfl; clear hb hg))
    go_still_tail 5, (by kernel_rfl)
    change wpList _ _ _ _ _ w5.drew
    have HX66 := Aside0.mk (Lb.blk_below HX65.out (Lb.below_drew w5))
    have HX36 := Aside0.mk (Lb.blk_below HX35.out (Lb.below_drew w5))
    have HX46 := Aside0.mk (Lb.blk_below HX45.out (Lb.below_drew w5))
    have HB6 := Aside0.mk (below_step HB5.out (Lb.below_drew w5))
    clear cm d0 d1
    generalize w5.drew = w6 at HX66 HX36 HX46 HB6 ⊢
    go_wp2_with (first
        | (go_at_call 37; (with_reducible refine (mount_held_37.calls (M.length + 1) AM cM M host path false w6 (Kd.C_below HCM.out HB6.out) HcM.out CM.out).mono ?_); rintro e7 w7 ⟨rfl, hb⟩; have HX67 := Aside0.mk (Lb.blk_below HX66.out hb); have HX37 := Aside0.mk (Lb.blk_below HX36.out hb); have HX47 := Aside0.mk (Lb.blk_below HX46.out hb); have HB7 := Aside0.mk (below_step HB6.out hb); have d2 := (blk_cell HX67.out 2).trans rfl; have d1 := (blk_cell HX67.out 1).trans rfl; have p0 := (blk_cell HX37.out 0).trans rfl; have cm := (blk_cell (Lb.blk_below K1.out HB7.out) 1).trans rfl; clear hb))
    have p1 := (blk_cell HX37.out 1).trans rfl
    have k1 := Lb.blk_below K1.out HB7.out
    have cm' : ∀ (cs : Array Value) (t : TypeId), (w7.alloc (.cells cs t)).cell? ⟨g, 1, none⟩ = some (.slice AM M.length cM) := fun cs t => (blk_cell (blk_alloc k1 _) 1).trans rfl
    have KW := Aside0.mk k1
    have KO := Aside0.mk (own_keep K3.out (fun k cs f hr => Lb.blk_below hr HB7.out))
    have KEW := Aside0.mk (KE.out.keep (fun k cs t' f hr _ _ => Lb.blk_below hr HB7.out))
    have HBW := Aside0.mk (show B ≤ w7.heap.size from Nat.le_trans HM.out.lt HB7.out.size)
    clear k1
    go_region_law (refine app_step (w0 := w7) rfl (.tmp 61) (.tmp 63) 58 67 _ 2 32 rfl Tryz.underlying58 held_info rfl (by decide) (by decide) (B := B) (n := M.length) (m := 1) (v := .slice AM M.length cM) (news := [.string host, .string path]) rfl KO.out (by first | exact draw1 _ _ _ | exact draw2 _ _ _) rfl rfl (by simp [Value.oneCell']) HBW.out (by have := HML.out; omega) ?_; intro v12 w12 hA; obtain ⟨k12, cap12, row12, rfl, _, _, _, _⟩ := row_at hA.own (by omega); have HA12 := Aside0.mk hA; have hb12 := hA.keep g _ _ _ (by decide) KW.out; have hc12 := (blk_cell hb12 1).trans rfl; have hf12 := blk_frozen hb12 1; have HB12 := Aside0.mk hb12; clear hA hb12)
    all_goals
      have hb13 := Lb.setCell_block w12 g 1 _ _ (.slice (some ⟨k12, 0, none⟩) (M.length + 1) cap12) HB12.out
      have hg13 := Lb.setCell_grown w12 g 1 _ _ (.slice (some ⟨k12, 0, none⟩) (M.length + 1) cap12) HB12.out
      have hp := push_held (h := ⟨host, path⟩) KW.out KEW.out HM.out.ge HA12.out hb13 hg13 HBW.out
      have HMT := Aside0.mk hp.1
      have HFR : Aside0 (FrM B w _) := ⟨(FrM.of HB7.out HM.out.lt).trans hp.2⟩
      have HX613 := Aside0.mk (hp.2.frm _ _ _ _ HX67.out (by decide) (by decide))
      have HX413 := Aside0.mk (hp.2.frm _ _ _ _ HX47.out (by decide) (by decide))
      clear hb13 hg13 hp d2 d1 p0 p1 cm cm' hc12 hf12
      generalize w12.setCell ⟨g, 1, none⟩ (.slice (some ⟨k12, 0, none⟩) (M.length + 1) cap12) = w13 at HMT HFR HX613 HX413 ⊢
      have d1 := (blk_cell HX613.out 1).trans rfl
      go_wp2_with (first
          | ((with_reducible refine gate_dst (N := 67) rfl ?_); refine Lb.alloc_event ?hg (v := fun g => .slice (some ⟨g, 0, none⟩) 3 3) (cs := #[.int .i64 0, .int .i64 1, .int .i64 1]) (t := 3) (fr := (0, 0)) ?hr ?_; (case hg => rfl); (case hr => first | (go_simp; done) | (go_simp; rfl)); intro g9 hg9 w9 hx hb; have HX9 := Aside0.mk hx; have HX49 := Aside0.mk (Lb.blk_below HX413.out hb); have HX69 := Aside0.mk (Lb.blk_below HX613.out hb); have HB9 := Aside0.mk hb; have HNE9 := Aside0.mk (show g9 ≠ g4 by have := blk_lt HX413.out; omega); clear d1; have d1 := (blk_cell HX69.out 1).trans rfl; clear hx hb hg9)
          | ((with_reducible refine gate_dst (N := 70) rfl ?_); refine Lb.alloc_event ?hg (v := fun g => .slice (some ⟨g, 0, none⟩) 1 1) (cs := #[.string e.handle]) (t := 9) (fr := (0, 0)) ?hr ?_; (case hg => rfl); (case hr => first | (go_simp; done) | (go_simp; rfl)); intro g10 hg10 w10 hx hb; have HX10 := Aside0.mk hx; have HX910 := Aside0.mk (Lb.blk_below HX9.out hb); have HX410 := Aside0.mk (Lb.blk_below HX49.out hb); have HB10 := Aside0.mk (below_step HB9.out hb); have HNE10 := Aside0.mk (show g10 ≠ g4 by have := blk_lt HX49.out; omega); clear d1; clear hx hb hg10)
          | ((with_reducible refine gate_store (t := 40) (p := 4) rfl ?_); refine Lb.store_whole rfl rfl 40 (.tmp 4) (.tmp 71) rfl (new := #[.slice (some ⟨g9, 0, none⟩) 3 3, .slice (some ⟨g10, 0, none⟩) 1 1]) rfl rfl HX410.out rfl (by kernel_rfl) (by simp [Value.oneCell']) ?_; intro w11 hb hg; have HXV := Aside0.mk hb; have HXN := Aside0.mk (Lb.blk_grown' HX910.out hg HNE9.out); have HXT := Aside0.mk (Lb.blk_grown' HX10.out hg HNE10.out); have HGV := Aside0.mk hg; clear hb hg))
      have v0 := (blk_cell HXV.out 0).trans rfl
      have v1 := (blk_cell HXV.out 1).trans rfl
      have hg4 : B ≤ g4 := Nat.le_trans HM.out.lt HG4.out.1
      have hb13 := HMT.out.lt
      have hfr : FrM B w w11 := ⟨Lb.grown_below (HFR.out.bel.trans (HB10.out.mono hb13)) HGV.out (Nat.le_trans hb13 HB10.out.size) hg4, fun k cs t' f hr h1 h2 => Lb.blk_grown' (Lb.blk_below (HFR.out.frm k cs t' f hr h1 h2) HB10.out) HGV.out (by have := blk_lt hr; have := HG4.out.1; omega)⟩
      exact bodyPost_ret (v := .agg #[.slice (some ⟨g9, 0, none⟩) 3 3, .slice (some ⟨g10, 0, none⟩) 1 1]) (by simp [results, Tryz.results20, go_sem, v0, v1]) rfl ⟨⟨_, _, rfl, ints_blk [0, 1, 1] HXN.out, strs_blk [e.handle] HXT.out⟩, (HMT.out.step HB10.out).other HX410.out HGV.out (by decide) (by decide) (by decide) (by decide), hfr⟩
  · have y1 : decide ((0 : Int) < (e.hosts.length : Int)) = true := decide_eq_true (by omega)
    have y1n : decide (0 < e.hosts.length) = true := decide_eq_true z1
    have HMAY : Aside0 (mayHost e host = true) := ⟨by unfold mayHost; rw [z2]; cases hh : e.hosts with | nil => rw [hh] at z1; simp at z1 | cons a r => rfl⟩
    rw [z2] at CH
    have HTH := Aside0.mk z3
    rw [z3] at CM
    have y4 : decide ((64 : Int) ≤ (M.length : Int)) = false := decide_eq_false (by omega)
    have y4n : decide (64 ≤ M.length) = false := decide_eq_false (by omega)
    have HZ4 := Aside0.mk z4
    have e1 : mayHost e host = true ∧ hasM M host path = false ∧ M.length < 64 := ⟨HMAY.out, HTH.out, HZ4.out⟩
    have e2 : mayHost e host = true ∧ (hasM M host path = true ∨ M.length < 64) := ⟨HMAY.out, .inr HZ4.out⟩
    rw [if_pos e1] at hM'
    rw [if_pos e2] at hN hT
    subst hM' hN hT
    clear e1 e2
    clear z1 z2 z3 z4
    go_enter Tryz.func20, Tryz.ntmps20
    go_wp2_with (first
        | ((with_reducible refine gate_dst (N := 3) rfl ?_); refine box_event ?hg (N := 3) ?hd (cs := #[.string host, .string path]) (t := 67) ?hr ?_; (case hd => rfl); (case hg => rfl); (case hr => first | (go_simp; done) | (go_simp; rfl)); intro g3 hg3 w1 hx hb; have HX3 := Aside0.mk hx; have HB1 := Aside0.mk hb; have HG3 := Aside0.mk hg3; clear hx hb hg3)
        | ((with_reducible refine gate_dst (N := 4) rfl ?_); refine box_event ?hg (N := 4) ?hd (cs := #[.slice none 0 0, .slice none 0 0]) (t := 40) ?hr ?_; (case hd => rfl); (case hg => rfl); (case hr => first | (go_simp; done) | (go_simp; rfl)); intro g4 hg4 w2 hx hb; have HX4 := Aside0.mk hx; have HX32 := Aside0.mk (Lb.blk_below HX3.out hb); have HB2 := Aside0.mk (below_step HB1.out hb); have HG4 := Aside0.mk (show w.heap.size ≤ g4 ∧ g3 ≠ g4 by have := HB1.out.size; have := HG3.out; have := blk_lt HX3.out; omega); have d0 := (blk_cell HX32.out 0).trans rfl; have d1 := (blk_cell HX32.out 1).trans rfl; clear hx hb hg4)
        | (go_at_call 18; (with_reducible refine (find_calls B g E M path w2 (HM.out.step HB2.out) HEL.out).mono ?_); rw [HIX.out]; rintro e3 w3 ⟨rfl, hb⟩; have HX33 := Aside0.mk (Lb.blk_below HX32.out hb); have HX43 := Aside0.mk (Lb.blk_below HX4.out hb); have HB3 := Aside0.mk (below_step HB2.out hb); have ce := (blk_cell (Lb.blk_below K1.out HB3.out) 0).trans rfl; have c0 := Lib.Below.cellOf HB3.out C0.out (Nat.le_refl _); have c1 := Lib.Below.cellOf HB3.out C1.out (Nat.le_refl _); have c2 := Lib.Below.cellOf HB3.out C2.out (Nat.le_refl _); clear d0 d1 hb)
        | ((with_reducible refine gate_dst (N := 6) rfl ?_); refine box_event ?hg (N := 6) ?hd (cs := #[.string ⟨#[]⟩, .string ⟨#[]⟩, .slice none 0 0]) (t := 30) ?hr ?_; (case hd => rfl); (case hg => rfl); (case hr => first | (go_simp; done) | (go_simp; rfl)); intro g6 hg6 w4 hx hb; have HX6 := Aside0.mk hx; have HX34 := Aside0.mk (Lb.blk_below HX33.out hb); have HX44 := Aside0.mk (Lb.blk_below HX43.out hb); have HB4 := Aside0.mk (below_step HB3.out hb); have HG6 := Aside0.mk (show w.heap.size ≤ g6 ∧ g3 ≠ g6 ∧ g4 ≠ g6 by have := HB3.out.size; have := blk_lt HX33.out; have := blk_lt HX43.out; omega); clear ce c0 c1 c2; clear hx hb hg6)
        | ((with_reducible refine gate_store (t := 30) (p := 6) rfl ?_); refine Lb.store_whole rfl rfl 30 (.tmp 6) (.tmp 22) rfl (new := #[.string e.path, .string e.handle, .slice AH e.hosts.length cH]) rfl rfl HX6.out rfl (by kernel_rfl) (by simp [Value.oneCell']) ?_; intro w5 hb hg; have HX65 := Aside0.mk hb; have HX35 := Aside0.mk (Lb.blk_grown' HX34.out hg HG6.out.2.1); have HX45 := Aside0.mk (Lb.blk_grown' HX44.out hg HG6.out.2.2); have HB5 := Aside0.mk (Lb.grown_below HB4.out hg HB4.out.size HG6.out.1); have cm := (blk_cell (Lb.blk_below K1.out HB5.out) 1).trans rfl; have d0 := (blk_cell HX35.out 0).trans rfl; have d1 := (blk_cell HX35.out 1).trans rfl; clear hb hg))
    go_still_tail 5, (by kernel_rfl)
    change wpList _ _ _ _ _ w5.drew
    have HX66 := Aside0.mk (Lb.blk_below HX65.out (Lb.below_drew w5))
    have HX36 := Aside0.mk (Lb.blk_below HX35.out (Lb.below_drew w5))
    have HX46 := Aside0.mk (Lb.blk_below HX45.out (Lb.below_drew w5))
    have HB6 := Aside0.mk (below_step HB5.out (Lb.below_drew w5))
    clear cm d0 d1
    generalize w5.drew = w6 at HX66 HX36 HX46 HB6 ⊢
    go_wp2_with (first
        | (go_at_call 37; (with_reducible refine (mount_held_37.calls (M.length + 1) AM cM M host path false w6 (Kd.C_below HCM.out HB6.out) HcM.out CM.out).mono ?_); rintro e7 w7 ⟨rfl, hb⟩; have HX67 := Aside0.mk (Lb.blk_below HX66.out hb); have HX37 := Aside0.mk (Lb.blk_below HX36.out hb); have HX47 := Aside0.mk (Lb.blk_below HX46.out hb); have HB7 := Aside0.mk (below_step HB6.out hb); have d2 := (blk_cell HX67.out 2).trans rfl; have d1 := (blk_cell HX67.out 1).trans rfl; have p0 := (blk_cell HX37.out 0).trans rfl; have cm := (blk_cell (Lb.blk_below K1.out HB7.out) 1).trans rfl; clear hb)
        | (go_at_call 38; (with_reducible refine (slices_Contains_string_string.calls (e.hosts.length + 1) AH cH e.hosts host true w7 (Kd.C_below HCH.out HB7.out) HcH.out CH.out).mono ?_); rintro e8 w8 ⟨rfl, hd⟩; have hb := hd.below; have HX68 := Aside0.mk (Lb.blk_below HX67.out hb); have HX38 := Aside0.mk (Lb.blk_below HX37.out hb); have HX48 := Aside0.mk (Lb.blk_below HX47.out hb); have HB8 := Aside0.mk (below_step HB7.out hb); clear d2 d1 p0 cm; have d2 := (blk_cell HX68.out 2).trans rfl; have d1 := (blk_cell HX68.out 1).trans rfl; have p0 := (blk_cell HX38.out 0).trans rfl; have cm := (blk_cell (Lb.blk_below K1.out HB8.out) 1).trans rfl; clear hb hd))
    have p1 := (blk_cell HX38.out 1).trans rfl
    have k1 := Lb.blk_below K1.out HB8.out
    have cm' : ∀ (cs : Array Value) (t : TypeId), (w8.alloc (.cells cs t)).cell? ⟨g, 1, none⟩ = some (.slice AM M.length cM) := fun cs t => (blk_cell (blk_alloc k1 _) 1).trans rfl
    have KW := Aside0.mk k1
    have KO := Aside0.mk (own_keep K3.out (fun k cs f hr => Lb.blk_below hr HB8.out))
    have KEW := Aside0.mk (KE.out.keep (fun k cs t' f hr _ _ => Lb.blk_below hr HB8.out))
    have HBW := Aside0.mk (show B ≤ w8.heap.size from Nat.le_trans HM.out.lt HB8.out.size)
    clear k1
    go_region_law (refine app_step (w0 := w8) rfl (.tmp 61) (.tmp 63) 58 67 _ 2 32 rfl Tryz.underlying58 held_info rfl (by decide) (by decide) (B := B) (n := M.length) (m := 1) (v := .slice AM M.length cM) (news := [.string host, .string path]) rfl KO.out (by first | exact draw1 _ _ _ | exact draw2 _ _ _) rfl rfl (by simp [Value.oneCell']) HBW.out (by have := HML.out; omega) ?_; intro v12 w12 hA; obtain ⟨k12, cap12, row12, rfl, _, _, _, _⟩ := row_at hA.own (by omega); have HA12 := Aside0.mk hA; have hb12 := hA.keep g _ _ _ (by decide) KW.out; have hc12 := (blk_cell hb12 1).trans rfl; have hf12 := blk_frozen hb12 1; have HB12 := Aside0.mk hb12; clear hA hb12)
    all_goals
      have hb13 := Lb.setCell_block w12 g 1 _ _ (.slice (some ⟨k12, 0, none⟩) (M.length + 1) cap12) HB12.out
      have hg13 := Lb.setCell_grown w12 g 1 _ _ (.slice (some ⟨k12, 0, none⟩) (M.length + 1) cap12) HB12.out
      have hp := push_held (h := ⟨host, path⟩) KW.out KEW.out HM.out.ge HA12.out hb13 hg13 HBW.out
      have HMT := Aside0.mk hp.1
      have HFR : Aside0 (FrM B w _) := ⟨(FrM.of HB8.out HM.out.lt).trans hp.2⟩
      have HX613 := Aside0.mk (hp.2.frm _ _ _ _ HX68.out (by decide) (by decide))
      have HX413 := Aside0.mk (hp.2.frm _ _ _ _ HX48.out (by decide) (by decide))
      clear hb13 hg13 hp d2 d1 p0 p1 cm cm' hc12 hf12
      generalize w12.setCell ⟨g, 1, none⟩ (.slice (some ⟨k12, 0, none⟩) (M.length + 1) cap12) = w13 at HMT HFR HX613 HX413 ⊢
      have d1 := (blk_cell HX613.out 1).trans rfl
      go_wp2_with (first
          | ((with_reducible refine gate_dst (N := 67) rfl ?_); refine Lb.alloc_event ?hg (v := fun g => .slice (some ⟨g, 0, none⟩) 3 3) (cs := #[.int .i64 0, .int .i64 1, .int .i64 1]) (t := 3) (fr := (0, 0)) ?hr ?_; (case hg => rfl); (case hr => first | (go_simp; done) | (go_simp; rfl)); intro g9 hg9 w9 hx hb; have HX9 := Aside0.mk hx; have HX49 := Aside0.mk (Lb.blk_below HX413.out hb); have HX69 := Aside0.mk (Lb.blk_below HX613.out hb); have HB9 := Aside0.mk hb; have HNE9 := Aside0.mk (show g9 ≠ g4 by have := blk_lt HX413.out; omega); clear d1; have d1 := (blk_cell HX69.out 1).trans rfl; clear hx hb hg9)
          | ((with_reducible refine gate_dst (N := 70) rfl ?_); refine Lb.alloc_event ?hg (v := fun g => .slice (some ⟨g, 0, none⟩) 1 1) (cs := #[.string e.handle]) (t := 9) (fr := (0, 0)) ?hr ?_; (case hg => rfl); (case hr => first | (go_simp; done) | (go_simp; rfl)); intro g10 hg10 w10 hx hb; have HX10 := Aside0.mk hx; have HX910 := Aside0.mk (Lb.blk_below HX9.out hb); have HX410 := Aside0.mk (Lb.blk_below HX49.out hb); have HB10 := Aside0.mk (below_step HB9.out hb); have HNE10 := Aside0.mk (show g10 ≠ g4 by have := blk_lt HX49.out; omega); clear d1; clear hx hb hg10)
          | ((with_reducible refine gate_store (t := 40) (p := 4) rfl ?_); refine Lb.store_whole rfl rfl 40 (.tmp 4) (.tmp 71) rfl (new := #[.slice (some ⟨g9, 0, none⟩) 3 3, .slice (some ⟨g10, 0, none⟩) 1 1]) rfl rfl HX410.out rfl (by kernel_rfl) (by simp [Value.oneCell']) ?_; intro w11 hb hg; have HXV := Aside0.mk hb; have HXN := Aside0.mk (Lb.blk_grown' HX910.out hg HNE9.out); have HXT := Aside0.mk (Lb.blk_grown' HX10.out hg HNE10.out); have HGV := Aside0.mk hg; clear hb hg))
      have v0 := (blk_cell HXV.out 0).trans rfl
      have v1 := (blk_cell HXV.out 1).trans rfl
      have hg4 : B ≤ g4 := Nat.le_trans HM.out.lt HG4.out.1
      have hb13 := HMT.out.lt
      have hfr : FrM B w w11 := ⟨Lb.grown_below (HFR.out.bel.trans (HB10.out.mono hb13)) HGV.out (Nat.le_trans hb13 HB10.out.size) hg4, fun k cs t' f hr h1 h2 => Lb.blk_grown' (Lb.blk_below (HFR.out.frm k cs t' f hr h1 h2) HB10.out) HGV.out (by have := blk_lt hr; have := HG4.out.1; omega)⟩
      exact bodyPost_ret (v := .agg #[.slice (some ⟨g9, 0, none⟩) 3 3, .slice (some ⟨g10, 0, none⟩) 1 1]) (by simp [results, Tryz.results20, go_sem, v0, v1]) rfl ⟨⟨_, _, rfl, ints_blk [0, 1, 1] HXN.out, strs_blk [e.handle] HXT.out⟩, (HMT.out.step HB10.out).other HX410.out HGV.out (by decide) (by decide) (by decide) (by decide), hfr⟩
theorem mnt_some (B g : Nat) (E : List Exp) (M : List Held) (host path : ByteArray) (i : Nat) (e : Exp) (w : World) (h : MT B w g E M) (hel : E.length ≤ 1000000) (hml : M.length ≤ 1000000) (hhl : e.hosts.length ≤ 100000000) (hix : idx (pathIs path) E 0 = i) (hi : E[i]? = some e) :
    Calls Tryz.prog 20 #[.pointer (some ⟨g, 0, none⟩), .agg #[.string host, .string path]] w fun r w' => ValRes B w g E (if mayHost e host = true ∧ hasM M host path = false ∧ M.length < 64 then M ++ [⟨host, path⟩] else M) (if mayHost e host = true ∧ (hasM M host path = true ∨ M.length < 64) then [0, 1, 1] else [13]) (if mayHost e host = true ∧ (hasM M host path = true ∨ M.length < 64) then [e.handle] else []) r w' := mnt_some0 B g E M host path i e w h hel hml hhl hix hi _ _ _ rfl rfl rfl
end Go.Proofs.YthamffpieafkbaaGreatDoor.Mt
