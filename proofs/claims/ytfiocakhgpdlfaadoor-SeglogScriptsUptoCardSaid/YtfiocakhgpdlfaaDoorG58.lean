/- The document's Append. -/
import Derived.Test.YtfiocakhgpdlfaaDoorHk
import Derived.StillTailTactics
namespace Go.Proofs.YtfiocakhgpdlfaaDoor.Sg
open Go.RowKit Go.Lib Go.Proofs.YtfiocakhgpdlfaaDoor.Ap Go.Proofs.YtfiocakhgpdlfaaDoorW.PrintWords Go.Proofs.YtfiocakhgpdlfaaDoorW.PrintLast Go.Proofs.YtfiocakhgpdlfaaDoorW.PrintMore
set_option linter.unusedVariables false
set_option linter.unusedSimpArgs false
attribute [local go_sem] toB_size

theorem rfree_any (B g : Nat) (R : Rl) (vI vU : Value) (L : Int) (hL : leastF R.ids R.segs = L) (w : World) (h : RRaw B w g R vI vU) (hS : R.segs ≤ 64) (hn : R.ids.length ≤ 64) :
    Calls Tryd.prog 50 #[.pointer (some ⟨g, 0, none⟩)] w fun e w' => (∃ q : Int, e = .returned (.tuple #[.int .i64 q, .int .i64 L])) ∧ w = w' := by
  subst hL
  exact (rfree_calls B g R vI vU w h hS hn).mono (fun e w' ⟨h1, h2⟩ => ⟨⟨_, h1⟩, h2⟩)

set_option maxRecDepth 100000 in
/-- too long -/
theorem rappend_long (B g : Nat) (segs : Nat) (RI RU : List Int) (seq boot serial : Int) (VI VU : Value) (body : List UInt8) (w : World) (hl : RRaw B w g ⟨segs, RI, RU, seq, boot, serial⟩ VI VU) (hle : B ≤ w.heap.size) (hbl : 3728 < body.length) (hb9 : body.length ≤ 1000000000) :
    Calls Tryd.prog 23 #[.pointer (some ⟨g, 0, none⟩), .string (toB body)] w fun e w' => e = .returned (.tuple #[.agg #[.int .i64 0, .int .i64 0, .string ⟨#[]⟩], .int .i64 2]) ∧ RRaw B w' g ⟨segs, RI, RU, seq, boot, serial⟩ VI VU ∧ FrR B w w' := by
  have HL := Aside0.mk hl
  have HLE := Aside0.mk hle
  have hblI : (3728 : Int) < (body.length : Int) := by omega
  clear hl hle hbl hb9
  go_enter Tryd.func23, Tryd.ntmps23
  go_wp2_with (first
    | ((with_reducible refine gate_dst (N := 4) rfl ?_); refine Lb.alloc_event ?hg (v := fun g => .pointer (some ⟨g, 0, none⟩)) (cs := #[.int .i64 0, .int .i64 0, .string ⟨#[]⟩]) (t := 59) (fr := (0, 0)) ?hr ?_; (case hg => rfl); (case hr => first | (go_simp; done) | (go_simp; rfl)); intro g4 hg4 wa hx hb; have HK : Aside0 (RA B w wa g4 g ⟨segs, RI, RU, seq, boot, serial⟩ VI VU) := ⟨⟨HL.out.step hb, hx, FrR.of hb HLE.out, by omega, HLE.out⟩⟩; clear hx hb hg4)
    | ((with_reducible refine gate_store (t := 59) (p := 4) rfl ?_); refine Lb.store_whole rfl rfl 59 (.tmp 4) (.tmp 13) rfl (new := #[.int .i64 0, .int .i64 0, .string ⟨#[]⟩]) rfl rfl HK.out.rcd rfl (by kernel_rfl) (by simp [Value.oneCell']) ?_; intro wz hb hg; have HZ := Aside0.mk (HK.out.shut hg); have v0 := (blk_cell hb 0).trans rfl; have v1 := (blk_cell hb 1).trans rfl; have v2 := (blk_cell hb 2).trans rfl; clear hb hg))
  exact bodyPost_ret (v := .tuple #[.agg #[.int .i64 0, .int .i64 0, .string ⟨#[]⟩], .int .i64 2]) (by simp [results, Tryd.results23, go_sem, v0, v1, v2]) rfl ⟨rfl, HZ.out.1, HZ.out.2⟩

set_option maxRecDepth 100000 in
set_option maxHeartbeats 4000000 in
theorem rappend_fits (B g : Nat) (segs : Nat) (pi pu : List Int) (x u : Int) (seq boot serial : Int) (VI VU : Value) (body : List UInt8) (pp : Nat) (hp : partsN body.length = pp) (w : World) (hl : RRaw B w g ⟨segs, pi ++ [x], pu ++ [u], seq, boot, serial⟩ VI VU) (hle : B ≤ w.heap.size) (hbl : body.length ≤ 3728)
    (hm : pi.length = pu.length) (hm63 : pi.length ≤ 63) (hu0 : 0 ≤ u) (hu : u ≤ 16) (hs0 : 0 ≤ seq) (hs : seq ≤ 1152921504606846976) (hf : u + pp ≤ 16) :
    Calls Tryd.prog 23 #[.pointer (some ⟨g, 0, none⟩), .string (toB body)] w fun e w' => e = .returned (.tuple #[.agg #[.int .i64 seq, .int .i64 x, .string (toB body)], .int .i64 0]) ∧ ∃ VI' VU', RRaw B w' g ⟨segs, pi ++ [x], pu ++ [u + pp], seq + 1, boot, serial⟩ VI' VU' ∧ FrR B w w' := by
  obtain ⟨kI, cI, rfl, _, _⟩ := hl.ids.at 0 _ (List.getElem?_eq_getElem (show 0 < (pi ++ [x]).length by simp))
  obtain ⟨kU, cU, rfl, _, _⟩ := hl.used.at 0 _ (List.getElem?_eq_getElem (show 0 < (pu ++ [u]).length by simp))
  obtain ⟨m, hmm⟩ : ∃ m, m = pi.length := ⟨_, rfl⟩
  have HM : Aside0 (m = pi.length ∧ m = pu.length) := ⟨hmm, by omega⟩
  have HL : Aside0 (RRaw B w g ⟨segs, pi ++ [x], pu ++ [u], seq, boot, serial⟩ (.slice (some ⟨kI, 0, none⟩) (m + 1) cI) (.slice (some ⟨kU, 0, none⟩) (m + 1) cU)) := ⟨by
    have h := hl
    rw [show (pi ++ [x]).length = m + 1 by simp [HM.out.1], show (pu ++ [u]).length = m + 1 by simp [HM.out.2]] at h
    exact h⟩
  have HLE := Aside0.mk hle
  have HBL := Aside0.mk hbl
  have HP := Aside0.mk hp
  have hpI : (pp : Int) ≤ 16 := by rw [← hp]; unfold partsN; omega
  have hblI : (body.length : Int) ≤ 3728 := by omega
  have hmI : (m : Int) ≤ 63 := by omega
  have HM63 : Aside0 (m ≤ 63) := ⟨by omega⟩
  clear hl hle hbl hp hm hm63 hmm
  go_enter Tryd.func23, Tryd.ntmps23
  have hf0 : ¬ ((16 : Int) < u + (pp : Int)) := by omega
  have hpp0 : (0 : Int) ≤ (pp : Int) := by omega
  go_wp2_with (first
    | ((with_reducible refine gate_dst (N := 4) rfl ?_); refine Lb.alloc_event ?hg (v := fun g => .pointer (some ⟨g, 0, none⟩)) (cs := #[.int .i64 0, .int .i64 0, .string ⟨#[]⟩]) (t := 59) (fr := (0, 0)) ?hr ?_; (case hg => rfl); (case hr => first | (go_simp; done) | (go_simp; rfl)); intro g4 hg4 wa hx hb; have HK : Aside0 (RA B w wa g4 g ⟨segs, pi ++ [x], pu ++ [u], seq, boot, serial⟩ (.slice (some ⟨kI, 0, none⟩) (m + 1) cI) (.slice (some ⟨kU, 0, none⟩) (m + 1) cU)) := ⟨⟨HL.out.step hb, hx, FrR.of hb HLE.out, by omega, HLE.out⟩⟩; clear hx hb hg4)
    | (go_at_call 49; (with_reducible refine (rparts_calls body.length pp HP.out HBL.out _).mono ?_); rintro e1 wb ⟨rfl, hb⟩; replace HK := Aside0.mk (HK.out.step hb); clear hb; obtain ⟨-, c1, c2, -, q0, q1⟩ := HK.out.cells HM.out.1 HM.out.2)
    | ((with_reducible refine gate_store (t := 3) (p := 71) rfl ?_); obtain ⟨row, r1, r2, -, -, -⟩ := IntsR.set (u + (pp : Int)) HK.out.log.used; rw [← HM.out.2] at r2; refine Lb.store_one rfl rfl 3 (.tmp 71) (.tmp 70) rfl (g := kU) (off := m) (u := .int .i64 (u + (pp : Int))) rfl rfl rfl rfl r1 (by kernel_rfl) r2 ?_; intro w7 hb hg; rw [HM.out.2] at hb; have HK5 := Aside0.mk (HK.out.last r1 hb hg); clear hb hg r1 r2 c1 c2 q0 q1; obtain ⟨-, c1, -, c3, q0, -⟩ := HK5.out.cells HM.out.1 HM.out.2)
    | ((with_reducible refine gate_store (t := 3) (p := 78) rfl ?_); refine Lb.store_one rfl rfl 3 (.tmp 78) (.tmp 76) rfl (g := g) (off := 3) (u := .int .i64 (seq + 1)) rfl rfl rfl rfl HK5.out.log.blk (by kernel_rfl) (show 3 < 6 by decide) ?_; intro w8 hb hg; have HK6 := Aside0.mk (HK5.out.put (R' := ⟨segs, _, _, seq + 1, boot, serial⟩) hb hg HK5.out.log.ids HK5.out.log.used HK5.out.log.apart); clear hb hg c1 c3 q0; obtain ⟨-, c1, -, c3, q0, -⟩ := HK6.out.cells HM.out.1 HM.out.2))
  have hsub : IntKind.i64.wrap seq = seq := by rw [IntKind.wrap_i64]; omega
  have h1i : (m : Int) < (m : Int) + 1 := by omega
  have h1j : 0 ≤ (m : Int) := by omega
  go_still_tail 14, (by kernel_rfl)
  change wpList _ _ _ _ _ w8.drew
  replace HK := Aside0.mk (HK6.out.step (Lb.below_drew w8))
  clear c1 c3 q0 HK6
  generalize w8.drew = w9 at HK ⊢
  go_wp2_with (first
    | ((with_reducible refine gate_store (t := 59) (p := 4) rfl ?_); refine Lb.store_whole rfl rfl 59 (.tmp 4) (.tmp 92) rfl (new := #[.int .i64 seq, .int .i64 x, .string (toB body)]) rfl rfl HK.out.rcd rfl (by kernel_rfl) (by simp [Value.oneCell']) ?_; intro wz hb hg; have HZ := Aside0.mk (HK.out.shut hg); have v0 := (blk_cell hb 0).trans rfl; have v1 := (blk_cell hb 1).trans rfl; have v2 := (blk_cell hb 2).trans rfl; clear hb hg))
  exact bodyPost_ret (v := .tuple #[.agg #[.int .i64 seq, .int .i64 x, .string (toB body)], .int .i64 0]) (by simp [results, Tryd.results23, go_sem, v0, v1, v2]) rfl ⟨rfl, _, _, HZ.out.1, HZ.out.2⟩

set_option maxRecDepth 100000 in
set_option maxHeartbeats 4000000 in
theorem rappend_full (B g : Nat) (segs : Nat) (pi pu : List Int) (x u : Int) (seq boot serial : Int) (VI VU : Value) (body : List UInt8) (pp : Nat) (hp : partsN body.length = pp) (w : World) (hl : RRaw B w g ⟨segs, pi ++ [x], pu ++ [u], seq, boot, serial⟩ VI VU) (hle : B ≤ w.heap.size) (hbl : body.length ≤ 3728)
    (hm : pi.length = pu.length) (hm63 : pi.length ≤ 63) (hu0 : 0 ≤ u) (hu : u ≤ 16) (hs0 : 0 ≤ seq) (hs : seq ≤ 1152921504606846976) (hf : ¬ u + pp ≤ 16) (hsg : segs ≤ 64) (hL : leastF (pi ++ [x]) segs < 0) :
    Calls Tryd.prog 23 #[.pointer (some ⟨g, 0, none⟩), .string (toB body)] w fun e w' => e = .returned (.tuple #[.agg #[.int .i64 0, .int .i64 0, .string ⟨#[]⟩], .int .i64 21]) ∧ ∃ VI' VU', RRaw B w' g ⟨segs, pi ++ [x], pu ++ [u], seq, boot, serial⟩ VI' VU' ∧ FrR B w w' := by
  obtain ⟨kI, cI, rfl, _, _⟩ := hl.ids.at 0 _ (List.getElem?_eq_getElem (show 0 < (pi ++ [x]).length by simp))
  obtain ⟨kU, cU, rfl, _, _⟩ := hl.used.at 0 _ (List.getElem?_eq_getElem (show 0 < (pu ++ [u]).length by simp))
  obtain ⟨m, hmm⟩ : ∃ m, m = pi.length := ⟨_, rfl⟩
  have HM : Aside0 (m = pi.length ∧ m = pu.length) := ⟨hmm, by omega⟩
  have HL : Aside0 (RRaw B w g ⟨segs, pi ++ [x], pu ++ [u], seq, boot, serial⟩ (.slice (some ⟨kI, 0, none⟩) (m + 1) cI) (.slice (some ⟨kU, 0, none⟩) (m + 1) cU)) := ⟨by
    have h := hl
    rw [show (pi ++ [x]).length = m + 1 by simp [HM.out.1], show (pu ++ [u]).length = m + 1 by simp [HM.out.2]] at h
    exact h⟩
  have HLE := Aside0.mk hle
  have HBL := Aside0.mk hbl
  have HP := Aside0.mk hp
  have hpI : (pp : Int) ≤ 16 := by rw [← hp]; unfold partsN; omega
  have hblI : (body.length : Int) ≤ 3728 := by omega
  have hmI : (m : Int) ≤ 63 := by omega
  have HM63 : Aside0 (m ≤ 63) := ⟨by omega⟩
  clear hl hle hbl hp hm hm63 hmm
  go_enter Tryd.func23, Tryd.ntmps23
  have hf0 : (16 : Int) < u + (pp : Int) := by omega
  have hpp0 : (0 : Int) ≤ (pp : Int) := by omega
  have HSG := Aside0.mk hsg
  obtain ⟨L, hL1⟩ : ∃ L, leastF (pi ++ [x]) segs = L := ⟨_, rfl⟩
  rw [hL1] at hL
  have HL1 := Aside0.mk hL1
  clear hf hsg hL1
  go_wp2_with (first
    | ((with_reducible refine gate_dst (N := 4) rfl ?_); refine Lb.alloc_event ?hg (v := fun g => .pointer (some ⟨g, 0, none⟩)) (cs := #[.int .i64 0, .int .i64 0, .string ⟨#[]⟩]) (t := 59) (fr := (0, 0)) ?hr ?_; (case hg => rfl); (case hr => first | (go_simp; done) | (go_simp; rfl)); intro g4 hg4 wa hx hb; have HK : Aside0 (RA B w wa g4 g ⟨segs, pi ++ [x], pu ++ [u], seq, boot, serial⟩ (.slice (some ⟨kI, 0, none⟩) (m + 1) cI) (.slice (some ⟨kU, 0, none⟩) (m + 1) cU)) := ⟨⟨HL.out.step hb, hx, FrR.of hb HLE.out, by omega, HLE.out⟩⟩; clear hx hb hg4)
    | (go_at_call 49; (with_reducible refine (rparts_calls body.length pp HP.out HBL.out _).mono ?_); rintro e1 wb ⟨rfl, hb⟩; replace HK := Aside0.mk (HK.out.step hb); clear hb; obtain ⟨-, c1, c2, -, q0, q1⟩ := HK.out.cells HM.out.1 HM.out.2)
    | (go_at_call 50; (with_reducible refine (rfree_any B g _ _ _ L HL1.out _ HK.out.log HSG.out (by simp only [List.length_append, List.length_singleton]; have := HM.out.1; have := HM63.out; omega)).mono ?_); rintro e2 w2 ⟨⟨q, rfl⟩, rfl⟩)
    | ((with_reducible refine gate_store (t := 59) (p := 4) rfl ?_); refine Lb.store_whole rfl rfl 59 (.tmp 4) (.tmp 40) rfl (new := #[.int .i64 0, .int .i64 0, .string ⟨#[]⟩]) rfl rfl HK.out.rcd rfl (by kernel_rfl) (by simp [Value.oneCell']) ?_; intro wz hb hg; have HZ := Aside0.mk (HK.out.shut hg); have v0 := (blk_cell hb 0).trans rfl; have v1 := (blk_cell hb 1).trans rfl; have v2 := (blk_cell hb 2).trans rfl; clear hb hg))
  exact bodyPost_ret (v := .tuple #[.agg #[.int .i64 0, .int .i64 0, .string ⟨#[]⟩], .int .i64 21]) (by simp [results, Tryd.results23, go_sem, v0, v1, v2]) rfl ⟨rfl, _, _, HZ.out.1, HZ.out.2⟩

set_option maxRecDepth 100000 in
set_option maxHeartbeats 4000000 in
theorem rappend_open (B g : Nat) (segs : Nat) (pi pu : List Int) (x u : Int) (seq boot serial : Int) (VI VU : Value) (body : List UInt8) (pp : Nat) (hp : partsN body.length = pp) (w : World) (hl : RRaw B w g ⟨segs, pi ++ [x], pu ++ [u], seq, boot, serial⟩ VI VU) (hle : B ≤ w.heap.size) (hbl : body.length ≤ 3728)
    (hm : pi.length = pu.length) (hm63 : pi.length ≤ 63) (hu0 : 0 ≤ u) (hu : u ≤ 16) (hs0 : 0 ≤ seq) (hs : seq ≤ 1152921504606846976) (hf : ¬ u + pp ≤ 16) (hsg : segs ≤ 64) (L : Int) (hL1 : leastF (pi ++ [x]) segs = L) (hL : 0 ≤ L) :
    Calls Tryd.prog 23 #[.pointer (some ⟨g, 0, none⟩), .string (toB body)] w fun e w' => e = .returned (.tuple #[.agg #[.int .i64 seq, .int .i64 L, .string (toB body)], .int .i64 0]) ∧ ∃ VI' VU', RRaw B w' g ⟨segs, pi ++ [x] ++ [L], pu ++ [u] ++ [(pp : Int)], seq + 1, boot, serial⟩ VI' VU' ∧ FrR B w w' := by
  obtain ⟨kI, cI, rfl, _, _⟩ := hl.ids.at 0 _ (List.getElem?_eq_getElem (show 0 < (pi ++ [x]).length by simp))
  obtain ⟨kU, cU, rfl, _, _⟩ := hl.used.at 0 _ (List.getElem?_eq_getElem (show 0 < (pu ++ [u]).length by simp))
  obtain ⟨m, hmm⟩ : ∃ m, m = pi.length := ⟨_, rfl⟩
  have HM : Aside0 (m = pi.length ∧ m = pu.length) := ⟨hmm, by omega⟩
  have HL : Aside0 (RRaw B w g ⟨segs, pi ++ [x], pu ++ [u], seq, boot, serial⟩ (.slice (some ⟨kI, 0, none⟩) (m + 1) cI) (.slice (some ⟨kU, 0, none⟩) (m + 1) cU)) := ⟨by
    have h := hl
    rw [show (pi ++ [x]).length = m + 1 by simp [HM.out.1], show (pu ++ [u]).length = m + 1 by simp [HM.out.2]] at h
    exact h⟩
  have HLE := Aside0.mk hle
  have HBL := Aside0.mk hbl
  have HP := Aside0.mk hp
  have hpI : (pp : Int) ≤ 16 := by rw [← hp]; unfold partsN; omega
  have hblI : (body.length : Int) ≤ 3728 := by omega
  have hmI : (m : Int) ≤ 63 := by omega
  have HM63 : Aside0 (m ≤ 63) := ⟨by omega⟩
  clear hl hle hbl hp hm hm63 hmm
  go_enter Tryd.func23, Tryd.ntmps23
  have hf0 : (16 : Int) < u + (pp : Int) := by omega
  have hpp0 : (0 : Int) ≤ (pp : Int) := by omega
  have HSG := Aside0.mk hsg
  have HL1 := Aside0.mk hL1
  clear hf hsg hL1
  have hLn : ¬ (L < 0) := by omega
  go_wp2_with (first
    | ((with_reducible refine gate_dst (N := 4) rfl ?_); refine Lb.alloc_event ?hg (v := fun g => .pointer (some ⟨g, 0, none⟩)) (cs := #[.int .i64 0, .int .i64 0, .string ⟨#[]⟩]) (t := 59) (fr := (0, 0)) ?hr ?_; (case hg => rfl); (case hr => first | (go_simp; done) | (go_simp; rfl)); intro g4 hg4 wa hx hb; have HK : Aside0 (RA B w wa g4 g ⟨segs, pi ++ [x], pu ++ [u], seq, boot, serial⟩ (.slice (some ⟨kI, 0, none⟩) (m + 1) cI) (.slice (some ⟨kU, 0, none⟩) (m + 1) cU)) := ⟨⟨HL.out.step hb, hx, FrR.of hb HLE.out, by omega, HLE.out⟩⟩; clear hx hb hg4)
    | (go_at_call 49; (with_reducible refine (rparts_calls body.length pp HP.out HBL.out _).mono ?_); rintro e1 wb ⟨rfl, hb⟩; replace HK := Aside0.mk (HK.out.step hb); clear hb; obtain ⟨-, c1, c2, -, q0, q1⟩ := HK.out.cells HM.out.1 HM.out.2)
    | (go_at_call 50; (with_reducible refine (rfree_any B g _ _ _ L HL1.out _ HK.out.log HSG.out (by simp only [List.length_append, List.length_singleton]; have := HM.out.1; have := HM63.out; omega)).mono ?_); rintro e2 w2 ⟨⟨q, rfl⟩, rfl⟩)
    | (at_builtin; refine print_append_cells (w0 := w) B rfl (.tmp 45) (.tmp 47) 55 3 (.int .i64 0) 1 8 rfl Tryd.underlying55 int_info rfl (by decide) (by decide) (.slice (some ⟨kI, 0, none⟩) (m + 1) cI) (m + 1) ((pi ++ [x]).map (Value.int .i64)) [.int .i64 L] rfl rfl rfl (by simp [Value.oneCell']) (HK.out.log.ids.len (by simp [HM.out.1])) HK.out.frm.bel HK.out.size (by have := HM63.out; omega) ?_; intro v1 w3 ho hb hg hat; have HO := Aside0.mk (IntsR.back ho (by simp [HM.out.1])); have HG := Aside0.mk (HK.out.appI HO.out hg hat); clear ho hb hg hat c1 c2 q0 q1)
    | ((with_reducible refine gate_store (t := 55) (p := 50) rfl ?_); refine Lb.store_one rfl rfl 55 (.tmp 50) (.tmp 48) rfl (g := g) (off := 1) (u := v1) rfl rfl (own_cells HO.out).1 (own_cells HO.out).2 HG.out.1 (by kernel_rfl) (show 1 < 6 by decide) ?_; intro w4 hb hg; replace HK := Aside0.mk (HG.out.2 w4 hb hg); clear hb hg; obtain ⟨-, c1, c2, -, -, -⟩ := HK.out.log.cells; clear HO HG)
    | (at_builtin; refine print_append_cells (w0 := w) B rfl (.tmp 55) (.tmp 56) 55 3 (.int .i64 0) 1 8 rfl Tryd.underlying55 int_info rfl (by decide) (by decide) (.slice (some ⟨kU, 0, none⟩) (m + 1) cU) (m + 1) ((pu ++ [u]).map (Value.int .i64)) [.int .i64 0] rfl rfl rfl (by simp [Value.oneCell']) (HK.out.log.used.len (by simp [HM.out.2])) HK.out.frm.bel HK.out.size (by have := HM63.out; omega) ?_; intro v2 w5 ho hb hg hat; have HO := Aside0.mk (IntsR.back ho (by simp [HM.out.2])); have HG := Aside0.mk (HK.out.appU HO.out hg hat); clear ho hb hg hat c1 c2)
    | ((with_reducible refine gate_store (t := 55) (p := 59) rfl ?_); refine Lb.store_one rfl rfl 55 (.tmp 59) (.tmp 57) rfl (g := g) (off := 2) (u := v2) rfl rfl (own_cells HO.out).1 (own_cells HO.out).2 HG.out.1 (by kernel_rfl) (show 2 < 6 by decide) ?_; intro w6 hb hg; replace HK := Aside0.mk (HG.out.2 w6 hb hg); clear hb hg HO HG; obtain ⟨k1, ci1, hv1, -, -⟩ := HK.out.log.ids.at 0 _ (List.getElem?_eq_getElem (show 0 < (pi ++ [x] ++ [L]).length by simp)); obtain ⟨k2, cu1, hv2, -, -⟩ := HK.out.log.used.at 0 _ (List.getElem?_eq_getElem (show 0 < (pu ++ [u] ++ [(0 : Int)]).length by simp)); rw [show (pi ++ [x] ++ [L]).length = m + 1 + 1 by simp [HM.out.1]] at hv1; rw [show (pu ++ [u] ++ [(0 : Int)]).length = m + 1 + 1 by simp [HM.out.2]] at hv2; subst hv1 hv2; have HM2 : Aside0 (m + 1 = (pi ++ [x]).length ∧ m + 1 = (pu ++ [u]).length) := ⟨by simp [HM.out.1], by simp [HM.out.2]⟩; obtain ⟨-, c1, c2, -, q0, q1⟩ := HK.out.cells HM2.out.1 HM2.out.2)
    | ((with_reducible refine gate_store (t := 3) (p := 71) rfl ?_); obtain ⟨row, r1, r2, -, -, -⟩ := IntsR.set (pp : Int) HK.out.log.used; rw [← HM2.out.2] at r2; refine Lb.store_one rfl rfl 3 (.tmp 71) (.tmp 70) rfl (g := k2) (off := (m + 1)) (u := .int .i64 (pp : Int)) rfl rfl rfl rfl r1 (by kernel_rfl) r2 ?_; intro w7 hb hg; rw [HM2.out.2] at hb; have HK5 := Aside0.mk (HK.out.last r1 hb hg); clear hb hg r1 r2 c1 c2 q0 q1; obtain ⟨-, c1, -, c3, q0, -⟩ := HK5.out.cells HM2.out.1 HM2.out.2)
    | ((with_reducible refine gate_store (t := 3) (p := 78) rfl ?_); refine Lb.store_one rfl rfl 3 (.tmp 78) (.tmp 76) rfl (g := g) (off := 3) (u := .int .i64 (seq + 1)) rfl rfl rfl rfl HK5.out.log.blk (by kernel_rfl) (show 3 < 6 by decide) ?_; intro w8 hb hg; have HK6 := Aside0.mk (HK5.out.put (R' := ⟨segs, _, _, seq + 1, boot, serial⟩) hb hg HK5.out.log.ids HK5.out.log.used HK5.out.log.apart); clear hb hg c1 c3 q0; obtain ⟨-, c1, -, c3, q0, -⟩ := HK6.out.cells HM2.out.1 HM2.out.2))
  have hsub : IntKind.i64.wrap seq = seq := by rw [IntKind.wrap_i64]; omega
  have h1i : ((m : Int) + 1) < ((m : Int) + 1) + 1 := by omega
  have h1j : 0 ≤ ((m : Int) + 1) := by omega
  go_still_tail 14, (by kernel_rfl)
  change wpList _ _ _ _ _ w8.drew
  replace HK := Aside0.mk (HK6.out.step (Lb.below_drew w8))
  clear c1 c3 q0 HK6
  generalize w8.drew = w9 at HK ⊢
  go_wp2_with (first
    | ((with_reducible refine gate_store (t := 59) (p := 4) rfl ?_); refine Lb.store_whole rfl rfl 59 (.tmp 4) (.tmp 92) rfl (new := #[.int .i64 seq, .int .i64 L, .string (toB body)]) rfl rfl HK.out.rcd rfl (by kernel_rfl) (by simp [Value.oneCell']) ?_; intro wz hb hg; have HZ := Aside0.mk (HK.out.shut hg); have v0 := (blk_cell hb 0).trans rfl; have v1 := (blk_cell hb 1).trans rfl; have v2 := (blk_cell hb 2).trans rfl; clear hb hg))
  exact bodyPost_ret (v := .tuple #[.agg #[.int .i64 seq, .int .i64 L, .string (toB body)], .int .i64 0]) (by simp [results, Tryd.results23, go_sem, v0, v1, v2]) rfl ⟨rfl, _, _, HZ.out.1, HZ.out.2⟩
end Go.Proofs.YtfiocakhgpdlfaaDoor.Sg
