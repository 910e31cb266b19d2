/- mount: Do of an export that is found; speaks. -/
import Derived.Test.YthamffpieafkbaaGreatDoorMf
namespace Go.Proofs.YthamffpieafkbaaGreatDoor.Mt
open Go.RowKit Go.Lib Go.Proofs.YthamffpieafkbaaGreatDoor.PM Go.Proofs.YthamffpieafkbaaGreatDoorW.PrintWords Go.Proofs.YthamffpieafkbaaGreatDoorW.PrintLast Go.Proofs.YthamffpieafkbaaGreatDoorW.PrintMore
set_option linter.unusedVariables false
set_option linter.unusedSimpArgs false

/-- what MNT makes of the mounts, and answers -/
def mntM (e : Exp) (host path : ByteArray) (M : List Held) : List Held := if mayHost e host = true ∧ hasM M host path = false ∧ M.length < 64 then M ++ [⟨host, path⟩] else M
def mntN (e : Exp) (host path : ByteArray) (M : List Held) : List Int := if mayHost e host = true ∧ (hasM M host path = true ∨ M.length < 64) then [0, 1, 1] else [13]
def mntT (e : Exp) (host path : ByteArray) (M : List Held) : List ByteArray := if mayHost e host = true ∧ (hasM M host path = true ∨ M.length < 64) then [e.handle] else []

theorem do_some (B g k : Nat) (E : List Exp) (M : List Held) (host path : ByteArray) (m : Int) (i : Nat) (e : Exp) (w : World) (h : MT B w g E M) (hm : w.cell? ⟨0, 0, none⟩ = some (.int .i64 m))
    (hk : w.heap[k]? = some (.cells #[.string path] 9 (0, 0))) (hh : host.size ≤ 255) (hp : path.size ≤ 1024) (hel : E.length ≤ 1000000) (hml : M.length ≤ 1000000) (hhl : e.hosts.length ≤ 100000000) (hix : idx (pathIs path) E 0 = i) (hi : E[i]? = some e) :
    Calls Tryz.prog 10 #[.pointer (some ⟨g, 0, none⟩), .string host, .int .i64 1, .agg #[.slice none 0 0, .slice (some ⟨k, 0, none⟩) 1 1]] w fun r w' => ValRes B w g E (mntM e host path M) (mntN e host path M) (mntT e host path M) r w' :=
  do1_calls B g k E M _ _ _ host path m w h hm hk hh hp (fun w5 h5 => mnt_some B g E M host path i e w5 h5 hel hml hhl hix hi)

/-- one export laid out by the law -/
theorem exps_one {w : World} {k : Nat} (p h : ByteArray) (hb : w.heap[k]? = some (.cells #[.string p, .string h, .slice none 0 0] 30 (0, 0))) : ExpsAt w 0 (.slice (some ⟨k, 0, none⟩) 1 1) [⟨p, h, []⟩] := by
  refine ⟨[.slice none 0 0], rfl, ⟨rfl, .inr ⟨k, 1, _, rfl, Nat.zero_le _, hb, Nat.le_refl _, ?_, ?_, rfl⟩⟩, ?_⟩
  · decide
  · rfl
  intro i e v he hv
  cases i with
  | zero => simp at he hv; subst he hv; exact strs_nil w
  | succ i => simp at he
theorem ints_at {w : World} {v : Value} {l : List Int} {n : Int} (h : IntsAt w v l) (h0 : l[0]? = some n) : ∃ k c, v = .slice (some ⟨k, 0, none⟩) l.length c ∧ w.cell? ⟨k, 0, none⟩ = some (.int .i64 n) := by
  obtain ⟨A, c, rfl, hc, h2⟩ := h
  obtain ⟨k, fr, row, rfl, hr, hx⟩ := h2 (fun e => by rw [e] at h0; simp at h0)
  exact ⟨k, c, rfl, by simp [World.cell?, hr, hx _ _ h0]⟩
theorem strs_at {w : World} {v : Value} {l : List ByteArray} {n : ByteArray} (h : StrsAt w v l) (h0 : l[0]? = some n) : ∃ k off c, v = .slice (some ⟨k, off, none⟩) l.length c ∧ w.cell? ⟨k, off, none⟩ = some (.string n) := by
  obtain ⟨A, c, rfl, hc, h2⟩ := h
  obtain ⟨k, off, fr, row, rfl, hr, hx⟩ := h2 (fun e => by rw [e] at h0; simp at h0)
  have := hx _ _ h0
  rw [Nat.add_zero] at this
  exact ⟨k, off, c, rfl, by simp [World.cell?, hr, this]⟩

def root : ByteArray := ⟨#[47]⟩
def hOf : ByteArray := ⟨#[104]⟩
def eR : Exp := ⟨⟨#[47]⟩, ⟨#[104]⟩, []⟩
theorem good1 (p h : ByteArray) (hp : p.size ≤ 1024) (hh : h.size ≤ 64) : GoodE [⟨p, h, []⟩] := ⟨fun i e he => by
  cases i with
  | zero => simp at he; subst he; exact ⟨hp, hh, rfl, rfl, by simp⟩
  | succ i => simp at he, by simp⟩

set_option maxRecDepth 100000 in
set_option maxHeartbeats 4000000 in
theorem speaks_calls (m : Int) (w : World) (hm : w.cell? ⟨0, 0, none⟩ = some (.int .i64 m)) :
    Calls Tryz.prog 7 #[] w fun e w' => e = .returned (.bool true) ∧ Below w.heap.size w w' := by
  have HME := Aside0.mk hm
  have hN : mntN eR ⟨#[97]⟩ ⟨#[47]⟩ [] = [0, 1, 1] := by kernel_rfl
  have hT : mntT eR ⟨#[97]⟩ ⟨#[47]⟩ [] = [⟨#[104]⟩] := by kernel_rfl
  have hM : mntM eR ⟨#[97]⟩ ⟨#[47]⟩ [] = [⟨⟨#[97]⟩, ⟨#[47]⟩⟩] := by kernel_rfl
  have HN := Aside0.mk hN
  have HT := Aside0.mk hT
  have HMM := Aside0.mk hM
  clear hm hN hT hM
  go_enter Tryz.func7, Tryz.ntmps7
  go_wp2_with (first
    | ((with_reducible refine gate_dst (N := 4) rfl ?_); refine Lb.alloc_event ?hg (v := fun g => .slice (some ⟨g, 0, none⟩) 1 1) (cs := #[.string ⟨#[47]⟩, .string ⟨#[104]⟩, .slice none 0 0]) (t := 30) (fr := (0, 0)) ?hr ?_; (case hg => rfl); (case hr => first | (go_simp; done) | (go_simp; rfl)); intro g4 hg4 w1 hx hb; have HX4 := Aside0.mk hx; have HB1 := Aside0.mk hb; clear hx hb hg4)
    | (go_at_call 8; (with_reducible refine (new_calls 0 _ [eR] w1 (exps_one _ _ HX4.out) (good1 _ _ (by decide) (by decide))).mono ?_); rintro e2 w2 ⟨⟨g, rfl, hmt⟩, hb⟩; have HMT := Aside0.mk hmt; have HB2 := Aside0.mk (below_step HB1.out hb); clear hmt hb)
    | ((with_reducible refine gate_dst (N := 7) rfl ?_); refine Lb.alloc_event ?hg (v := fun g => .slice (some ⟨g, 0, none⟩) 1 1) (cs := #[.string ⟨#[47]⟩]) (t := 9) (fr := (0, 0)) ?hr ?_; (case hg => rfl); (case hr => first | (go_simp; done) | (go_simp; rfl)); intro g7 hg7 w3 hx hb; have HX7 := Aside0.mk hx; have HMT3 := Aside0.mk (HMT.out.step hb); have HB3 := Aside0.mk (below_step HB2.out hb); clear hx hb hg7)
    | (go_at_call 10; (with_reducible refine (do_some _ g g7 [eR] [] ⟨#[97]⟩ ⟨#[47]⟩ m 0 eR w3 HMT3.out (Lib.Below.cellOf HB3.out HME.out (Nat.le_refl _)) HX7.out (by decide) (by decide) (by decide) (by decide) (by decide) (by kernel_rfl) rfl).mono ?_); rw [HN.out, HT.out, HMM.out]; rintro e4 w4 ⟨⟨vN, vT, rfl, hN, hT⟩, hmt, hfr⟩; have HNA := Aside0.mk hN; have HTA := Aside0.mk hT; have HMT4 := Aside0.mk hmt; have HB4 := Aside0.mk (show Below w.heap.size w w4 from HB3.out.trans (hfr.bel.mono HB1.out.size)); obtain ⟨kN, cN, rfl, _⟩ := ints_at hN rfl; obtain ⟨kT, oT, cT, rfl, _⟩ := strs_at hT rfl; clear hmt hfr hN hT)
    | ((with_reducible refine gate_dst (N := 2) rfl ?_); refine box_event ?hg (N := 2) ?hd (cs := #[.slice none 0 0, .slice none 0 0]) (t := 40) ?hr ?_; (case hd => rfl); (case hg => rfl); (case hr => first | (go_simp; done) | (go_simp; rfl)); intro g2 hg2 w5 hx hb; have HX2 := Aside0.mk hx; have HMT5 := Aside0.mk (HMT4.out.step hb); have HNA5 := Aside0.mk (HNA.out.keep (fun k cs f hr => Lb.blk_below hr hb)); have HTA5 := Aside0.mk (HTA.out.keep (fun k cs f hr => Lb.blk_below hr hb)); have HB5 := Aside0.mk (below_step HB4.out hb); have HG2 := Aside0.mk (show w.heap.size ≤ g2 by have := HB4.out.size; omega); clear hx hb hg2)
    | ((with_reducible refine gate_store (t := 40) (p := 2) rfl ?_); refine Lb.store_whole rfl rfl 40 (.tmp 2) (.tmp 9) rfl (new := #[.slice (some ⟨kN, 0, none⟩) [0, 1, 1].length cN, .slice (some ⟨kT, oT, none⟩) [(⟨#[104]⟩ : ByteArray)].length cT]) rfl rfl HX2.out rfl (by kernel_rfl) (by simp [Value.oneCell']) ?_; intro w6 hb hg; have HX26 := Aside0.mk hb; have hk6 := types_blk HX2.out hg; have HMT6 := Aside0.mk (HMT5.out.other HX2.out hg (by decide) (by decide) (by decide) (by decide)); have HB6 := Aside0.mk (Lb.grown_below HB5.out hg HB5.out.size HG2.out); have d0 := (blk_cell hb 0).trans rfl; have d1 := (blk_cell hb 1).trans rfl; obtain ⟨_, _, e1, n0⟩ := ints_at (HNA5.out.keep (fun k cs f hr => hk6 _ _ _ _ (by decide) hr)) rfl; injection e1 with e1 _ _; injection e1 with e1; injection e1 with e1 _ _; subst e1; obtain ⟨_, _, _, e2, t0⟩ := strs_at (HTA5.out.keep (fun k cs f hr => hk6 _ _ _ _ (by decide) hr)) rfl; injection e2 with e2 _ _; injection e2 with e2; injection e2 with e2 e3 _; subst e2 e3; clear hk6; clear hb hg)
    | (go_at_call 13; (with_reducible refine (mounts_calls _ g [eR] _ w6 HMT6.out (by decide)).mono ?_); rintro e7 w7 ⟨rfl, rfl⟩))
  go_ret
  exact ⟨rfl, HB6.out⟩
end Go.Proofs.YthamffpieafkbaaGreatDoor.Mt
