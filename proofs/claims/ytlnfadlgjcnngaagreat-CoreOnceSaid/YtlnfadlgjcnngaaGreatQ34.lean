/- The walk of CoreOnce. -/
import Derived.Test.YtlnfadlgjcnngaaGreatQ33
import Derived.Test.YtlnfadlgjcnngaaGreatQ19
namespace Go.Proofs.YtlnfadlgjcnngaaGreat.Co
open Go.RowKit Go.Maps Go.Lib Go.Proofs.YtlnfadlgjcnngaaGreat.Ap Go.Proofs.YtlnfadlgjcnngaaGreatW.PrintWords Go.Proofs.YtlnfadlgjcnngaaGreatW.PrintLast Go.Proofs.YtlnfadlgjcnngaaGreatW.PrintMore
set_option linter.unusedVariables false
set_option linter.unusedSimpArgs false

set_option maxRecDepth 100000 in
set_option maxHeartbeats 4000000 in
theorem once_calls (name a b' : ByteArray) (w : World) : Calls Tryz.prog 3 #[.string name, .string a, .string b'] w fun e w' => e = .returned (.bool true) ∧ Below w.heap.size w w' := by
  have HB := Aside0.mk (Below.refl w.heap.size w)
  go_enter Tryz.func3, Tryz.ntmps3
  go_upto_region 5 with (first
    | (go_at_call 8; refine (speaks_calls _).mono ?_; rintro e w2 ⟨rfl, hb⟩; replace HB := Aside0.mk (below_step HB.out hb); clear hb)
    | (go_at_call 9; refine (new_calls 1 _).mono ?_; rintro e w3 ⟨g, bN, bM, b, d, rfl, hf, hn, hd, hl, hb⟩; have HF := Aside0.mk hf; have HN := Aside0.mk hn; have HD := Aside0.mk hd; have HL : Aside0 (w.heap.size ≤ g ∧ w.heap.size ≤ bN ∧ w.heap.size ≤ bM ∧ w.heap.size ≤ b ∧ w.heap.size ≤ d) := ⟨by have := HB.out.size; omega⟩; replace HB := Aside0.mk (below_step HB.out hb); clear hf hn hd hl hb)
    | ((with_reducible refine gate_dst (N := 8) rfl ?_); refine box_event ?hg (N := 8) ?hd (cs := callC 0) (t := 29) ?hr ?_; (case hd => rfl); (case hg => rfl); (case hr => first | (go_simp; done) | (go_simp; rfl)); intro g10 hgg10 w4 hx hb; have HE := Aside0.mk hx; have HBE := Aside0.mk hb; have HGE := Aside0.mk hgg10; clear hx hb hgg10)
    | ((with_reducible refine gate_store (t := 29) (p := 8) rfl ?_); refine Lb.store_whole rfl rfl 29 (.tmp 8) (.tmp 18) rfl (new := callC 1) rfl rfl HE.out rfl (by kernel_rfl) (by simp [Value.oneCell']) ?_; intro w5 hb3 hg3; have hbb := Lb.grown_below HBE.out hg3 HBE.out.size (by have := HGE.out; omega); replace HF := Aside0.mk (HF.out.step hbb); replace HN := Aside0.mk (Lb.blk_below HN.out hbb); replace HD := Aside0.mk (show DirE w5 d from Lb.blk_below HD.out hbb); replace HB := Aside0.mk (below_step HB.out hbb); have HX := Aside0.mk hb3; clear hb3 hg3 HE HBE HGE hbb))
  by_cases hK : chk name = 0
  · have HG := Aside0.mk (good_any name hK)
    clear hK
    obtain ⟨q0, hq0⟩ : ∃ q, a.toList.isEmpty = q := ⟨_, rfl⟩
    obtain ⟨q1, hq1⟩ : ∃ q, (a.toList == b'.toList) = q := ⟨_, rfl⟩
    have HQ := Lib.hid (And.intro hq0 hq1)
    obtain ⟨R1, HR1⟩ : ∃ R : Value, Aside0 ((if q0 = false ∧ true = true then .tuple #[.int .i64 2, .int .i64 0] else .tuple #[.int .i64 0, .int .i64 17]) = R) := ⟨_, ⟨rfl⟩⟩
    obtain ⟨R2, HR2⟩ : ∃ R : Value, Aside0 ((if q0 = false ∧ q1 = true then .tuple #[.int .i64 2, .int .i64 0] else .tuple #[.int .i64 0, .int .i64 17]) = R) := ⟨_, ⟨rfl⟩⟩
    have HS := Lib.hid (show (a.toList == a.toList) = true from by simp)
    clear hq0 hq1
    go_upto_region 6 with (first
      | ((with_reducible refine gate_dst (N := 21) rfl ?_); refine wpList_load_row rfl 29 (.tmp 8) rfl g10 rfl 29 (callC 1) (0, 0) _ HX.out Tryz.underlying29 rfl (by kernel_rfl) ?_)
      | (go_at_call 10; (refine (create_two g bN bM 1 _ 2 b d (nd1 1 d) 1 1 name a _ HF.out (by decide) (by decide) (by decide) ⟨by decide, by decide⟩ (show putF (fun _ => none) 1 b 1 = some b from rfl) HN.out HD.out rfl rfl (show InI 1 from ⟨by decide, by decide⟩) HG.out).mono ?_); rintro e w6 ⟨rfl, b2, l2, r2, r3, r4, r5, r6⟩; have HF6 : Aside0 (FsAt w6 g bN bM 2 (putF (putF (fun _ => none) 1 b) 2 b2) 6) := ⟨r2⟩; have HP6 := Aside0.mk r3; have HD6 := Aside0.mk r4; have HN6 : Aside0 (NodeAt w6 b2 (Nd.born { nd0 with kind := 1, mode := 420, verf := a } 2 1)) := ⟨r5⟩; have HX6 := Aside0.mk (r6.typ _ _ _ _ HX.out (by decide)); have HB6 := Aside0.mk (HB.out.trans (r6.below (by have := HL.out; simp; omega) HB.out.size)); clear r2 r3 r4 r5 r6 l2 HF HN HD HX HB))
    cases q0 <;> cases q1
    all_goals
      (first
        | (obtain ⟨rfl⟩ : R1 = .tuple #[.int .i64 2, .int .i64 0] := HR1.out.symm)
        | (obtain ⟨rfl⟩ : R1 = .tuple #[.int .i64 0, .int .i64 17] := HR1.out.symm))
      (first
        | (obtain ⟨rfl⟩ : R2 = .tuple #[.int .i64 2, .int .i64 0] := HR2.out.symm)
        | (obtain ⟨rfl⟩ : R2 = .tuple #[.int .i64 0, .int .i64 17] := HR2.out.symm))
      go_upto_region 7 with (first
        | ((with_reducible refine gate_dst (N := 30) rfl ?_); refine wpList_load_row rfl 29 (.tmp 8) rfl g10 rfl 29 (callC 1) (0, 0) _ HX6.out Tryz.underlying29 rfl (by kernel_rfl) ?_)
        | (go_at_call 10; (refine (create_again g bN bM 2 _ 6 b d b2 _ _ 1 1 2 name a _ HF6.out ⟨by decide, by decide⟩ (show putF (putF (fun _ => none) 1 b) 2 b2 1 = some b from rfl) HP6.out HD6.out rfl rfl HG.out ⟨by decide, by decide⟩ (show putF (putF (fun _ => none) 1 b) 2 b2 2 = some b2 from rfl) HN6.out rfl _ true HQ.out.1 HS.out rfl _ HR1.out).mono ?_); rintro e w7 ⟨rfl, hb⟩; have HF7 := Aside0.mk (HF6.out.step hb); have HP7 := Aside0.mk (Lb.blk_below HP6.out hb); have HD7 := Aside0.mk (HD6.out.keep (Kp.of hb : Kp [] _ _) (by simp)); have HN7 := Aside0.mk (Lb.blk_below HN6.out hb); have HX7 := Aside0.mk (Lb.blk_below HX6.out hb); have HB7 := Aside0.mk (below_step HB6.out hb); clear hb))
      go_upto_region 8 with (first
        | ((with_reducible refine gate_dst (N := 39) rfl ?_); refine wpList_load_row rfl 29 (.tmp 8) rfl g10 rfl 29 (callC 1) (0, 0) _ HX7.out Tryz.underlying29 rfl (by kernel_rfl) ?_)
        | (go_at_call 10; (refine (create_again g bN bM 2 _ 6 b d b2 _ _ 1 1 2 name b' _ HF7.out ⟨by decide, by decide⟩ (show putF (putF (fun _ => none) 1 b) 2 b2 1 = some b from rfl) HP7.out HD7.out rfl rfl HG.out ⟨by decide, by decide⟩ (show putF (putF (fun _ => none) 1 b) 2 b2 2 = some b2 from rfl) HN7.out rfl _ _ HQ.out.1 HQ.out.2 rfl _ HR2.out).mono ?_); rintro e w8 ⟨rfl, hb⟩; have HB8 := Aside0.mk (below_step HB7.out hb); clear hb))
      obtain ⟨hq0, hq1⟩ := HQ.out
      go_wp2_with fail
      go_ret
      exact ⟨rfl, HB8.out⟩
  · obtain ⟨K, hKe⟩ : ∃ K, chk name = K := ⟨_, rfl⟩
    have HK := Lib.hid hKe
    have HK0 := Lib.hid hK
    rw [hKe] at hK
    have hne : (K != 0) = true := by simpa using hK
    clear hK hKe
    have hcb : ∀ (v : ByteArray) (w : World), FsAt w g bN bM 1 (putF (fun _ => none) 1 b) 2 → NodeAt w b (nd1 1 d) → Calls Tryz.prog 10 #[.pointer (some ⟨g, 0, none⟩), rootC 1, .int .i64 1, .string name, .int .i64 2, setV false false 0 0, .string v] w fun e w' => e = .returned (.tuple #[.int .i64 0, .int .i64 K]) ∧ Below w.heap.size w w' := fun v w hf hn => by
      have := create_bad g bN bM 1 _ 2 b (nd1 1 d) 1 1 2 name v w hf ⟨by decide, by decide⟩ (show putF (fun _ => none) 1 b 1 = some b from rfl) hn rfl HK0.out
      rw [HK.out] at this
      exact this
    have HCB := Lib.hid hcb
    clear hcb
    go_upto_region 8 with (first
      | ((with_reducible refine gate_dst (N := 21) rfl ?_); refine wpList_load_row rfl 29 (.tmp 8) rfl g10 rfl 29 (callC 1) (0, 0) _ HX.out Tryz.underlying29 rfl (by kernel_rfl) ?_)
      | ((with_reducible refine gate_dst (N := 30) rfl ?_); refine wpList_load_row rfl 29 (.tmp 8) rfl g10 rfl 29 (callC 1) (0, 0) _ HX.out Tryz.underlying29 rfl (by kernel_rfl) ?_)
      | ((with_reducible refine gate_dst (N := 39) rfl ?_); refine wpList_load_row rfl 29 (.tmp 8) rfl g10 rfl 29 (callC 1) (0, 0) _ HX.out Tryz.underlying29 rfl (by kernel_rfl) ?_)
      | (go_at_call 10; (refine (HCB.out _ _ HF.out HN.out).mono ?_); rintro e w6 ⟨rfl, hb⟩; replace HF := Aside0.mk (HF.out.step hb); replace HN := Aside0.mk (Lb.blk_below HN.out hb); replace HX := Aside0.mk (Lb.blk_below HX.out hb); replace HB := Aside0.mk (below_step HB.out hb); clear hb))
    go_wp2_with fail
    go_ret
    exact ⟨rfl, HB.out⟩
end Go.Proofs.YtlnfadlgjcnngaaGreat.Co
