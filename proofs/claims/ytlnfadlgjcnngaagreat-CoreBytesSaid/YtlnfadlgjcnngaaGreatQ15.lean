/- add: a directory in an empty directory. -/
import Derived.Test.YtlnfadlgjcnngaaGreatQ11
import Derived.Test.YtlnfadlgjcnngaaGreatQ14
namespace Go.Proofs.YtlnfadlgjcnngaaGreat.Co
open Go.RowKit Go.Maps Go.Lib Go.Proofs.YtlnfadlgjcnngaaGreat.Ap Go.Proofs.YtlnfadlgjcnngaaGreatW.PrintWords Go.Proofs.YtlnfadlgjcnngaaGreatW.PrintLast Go.Proofs.YtlnfadlgjcnngaaGreatW.PrintMore
set_option linter.unusedVariables false
set_option linter.unusedSimpArgs false

set_option maxRecDepth 100000 in
set_option maxHeartbeats 8000000 in
theorem add_dir (g bN bM : Nat) (last : Int) (F : Int → Option Nat) (m b d : Nat) (p n0 : Nd) (now : Int) (s : ByteArray) (w : World) (h : FsAt w g bN bM last F m) (hm : m ≤ 800000) (hl0 : 0 ≤ last) (hl : last ≤ 1000000) (hp : NodeAt w b p) (hd : DirE w d) (hpn : p.names = .pointer (some ⟨d, 0, none⟩)) (hpi : InI p.id) (hk : n0.kind = 2) (hp0 : 0 ≤ p.links) (hp1 : p.links ≤ 1000) (hs : Good s) :
    Calls Tryz.prog 36 #[.pointer (some ⟨g, 0, none⟩), rootC now, .pointer (some ⟨b, 0, none⟩), .string s, ndV n0, setV false false 0 0] w fun e w' => e = .returned (.int .i64 (last + 1)) ∧ ∃ g10 gd, w.heap.size ≤ g10 ∧ w.heap.size ≤ gd ∧ FsAt w' g bN bM (last + 1) (putF F (last + 1) g10) (m + 4) ∧ NodeAt w' b (Nd.chg { p with links := p.links + 1 } now) ∧ DirO w' d s (last + 1) ∧ NodeAt w' g10 { n0.born (last + 1) now with links := 2, parent := p.id, names := .pointer (some ⟨gd, 0, none⟩) } ∧ DirE w' gd ∧ Kp [g, bN, bM, b, d] w w' := by
  have HM := Aside0.mk hm
  have HL := Aside0.mk (And.intro hl0 hl)
  have H := Aside0.mk h
  have HP := Aside0.mk hp
  have HD := Aside0.mk hd
  have HPN := Aside0.mk hpn
  have HPI := Aside0.mk hpi
  have HS := Aside0.mk hs
  have HK := Aside0.mk hk
  have HKP := Aside0.mk (Kp.refl [g, bN, bM, b, d] w)
  have HLT : Aside0 (b < w.heap.size) := ⟨blk_lt hp⟩
  have HLD : Aside0 (d < w.heap.size) := ⟨blk_lt hd⟩
  clear h hm hp hd hpn hpi hs hk
  go_enter Tryz.func36, Tryz.ntmps36
  go_upto_region 3 with (first
    | ((with_reducible refine gate_dst (N := 7) rfl ?_); refine Lb.alloc_event ?hg (v := fun g => .pointer (some ⟨g, 0, none⟩)) (cs := callC now) (t := 29) (fr := (0, 0)) ?hr ?_; (case hg => rfl); (case hr => first | (go_simp; done) | (go_simp; rfl)); intro g7 hg7 w1 hx hb; have HX := Aside0.mk hx; replace H := Aside0.mk (H.out.step hb); replace HP := Aside0.mk (Lb.blk_below HP.out hb); replace HD := Aside0.mk (Lb.blk_below HD.out hb); replace HKP := Aside0.mk (HKP.out.trans (Kp.of hb)); clear hx hb hg7)
    | ((with_reducible refine gate_dst (N := 10) rfl ?_); refine Lb.alloc_event ?hg (v := fun g => .pointer (some ⟨g, 0, none⟩)) (cs := ndC n0) (t := 43) (fr := (0, 0)) ?hr ?_; (case hg => rfl); (case hr => first | (go_simp; done) | (go_simp; rfl)); intro g10 hg10 w2 hx hb; have HN := Aside0.mk hx; have HG := Aside0.mk (show w.heap.size ≤ g10 by have := HKP.out.size; omega); replace H := Aside0.mk (H.out.step hb); replace HP := Aside0.mk (Lb.blk_below HP.out hb); replace HD := Aside0.mk (Lb.blk_below HD.out hb); replace HX := Aside0.mk (Lb.blk_below HX.out hb); replace HKP := Aside0.mk (HKP.out.trans (Kp.of hb)); clear hx hb hg10)
    | ((with_reducible refine gate_dst (N := 11) rfl ?_); refine Lb.alloc_event ?hg (v := fun g => .pointer (some ⟨g, 0, none⟩)) (cs := setC false false 0 0) (t := 36) (fr := (0, 0)) ?hr ?_; (case hg => rfl); (case hr => first | (go_simp; done) | (go_simp; rfl)); intro g11 hg11 w3 hx hb; have HA : Aside0 (AD w w3 g bN bM last F m b d p n0 g7 g10 g11 now) := ⟨⟨H.out.step hb, Lb.blk_below HP.out hb, Lb.blk_below HD.out hb, Lb.blk_below HN.out hb, Lb.blk_below HX.out hb, hx, HKP.out.trans (Kp.of hb), HG.out, HLT.out⟩⟩; clear hx hb hg11 H HP HD HN HX HKP; obtain ⟨-, f1, -⟩ := HA.out.fs.cells)
    | ((with_reducible refine gate_store (t := 3) (p := 20) rfl ?_); refine Lb.store_one rfl rfl 3 (.tmp 20) (.tmp 18) rfl (g := g) (off := 1) (u := .int .i64 (last + 1)) rfl rfl rfl rfl HA.out.fs.blk (by kernel_rfl) (show 1 < 3 by decide) ?_; intro w4 hb hg; replace HA := Aside0.mk (HA.out.lasts (last' := last + 1) hb hg); clear hb hg f1; obtain ⟨-, f1, -⟩ := HA.out.fs.cells)
    | ((with_reducible refine gate_store (t := 3) (p := 26) rfl ?_); refine Lb.store_one rfl rfl 3 (.tmp 26) (.tmp 24) rfl (g := g10) (off := 10) (u := .int .i64 (last + 1)) rfl rfl rfl rfl HA.out.nd (by kernel_rfl) (show 10 < 21 by decide) ?_; intro w5 hb hg; replace HA := Aside0.mk (HA.out.nds (nn' := { n0 with id := last + 1 }) hb hg); clear hb hg f1)
    | ((with_reducible refine gate_store (t := 3) (p := 28) rfl ?_); refine Lb.store_one rfl rfl 3 (.tmp 28) (.const (.int .i64 1)) rfl (g := g10) (off := 9) (u := .int .i64 1) rfl rfl rfl rfl HA.out.nd (by kernel_rfl) (show 9 < 21 by decide) ?_; intro w6 hb hg; replace HA := Aside0.mk (HA.out.nds (nn' := { n0 with id := last + 1, fsid := 1 }) hb hg); clear hb hg)
    | ((with_reducible refine gate_store (t := 3) (p := 30) rfl ?_); refine Lb.store_one rfl rfl 3 (.tmp 30) (.const (.int .i64 1)) rfl (g := g10) (off := 2) (u := .int .i64 1) rfl rfl rfl rfl HA.out.nd (by kernel_rfl) (show 2 < 21 by decide) ?_; intro w7 hb hg; replace HA := Aside0.mk (HA.out.nds (nn' := { n0 with id := last + 1, fsid := 1, links := 1 }) hb hg); clear hb hg))
  go_cut [] (fun wx => Aside0 (AD w wx g bN bM (last + 1) F m b d p { n0 with id := last + 1, fsid := 1, links := 1, uid := 0, gid := 0 } g7 g10 g11 now))
  case first =>
    obtain ⟨e0, e1, e2, e3⟩ := call_cells HA.out.cl
    obtain ⟨-, -, -, a3, a4, -⟩ := NodeAt.cells HA.out.nd
    have b3 := blk_frozen HA.out.nd 3
    have b4 := blk_frozen HA.out.nd 4
    go_region
    all_goals
      obtain ⟨h1, h2⟩ := set2 HA.out.nd 0 0
      go_wp2_with fail
      go_meet
      exact ⟨(HA.out.nds (nn' := { n0 with id := last + 1, fsid := 1, links := 1, uid := 0, gid := 0 }) h1 h2).step (Lb.below_drew _)⟩
  case rest =>
    clear HA
    have HA := hcut
    clear hcut
    obtain ⟨e0, e1, e2, e3⟩ := call_cells HA.out.cl
    go_upto_region 7 with (first
      | (go_at_call 42; (with_reducible refine (time_calls now _).mono ?_); rintro e6 w10 ⟨rfl, hb⟩; replace HA := Aside0.mk (HA.out.step hb); clear hb e0 e1 e2 e3)
      | ((with_reducible refine gate_dst (N := 13) rfl ?_); refine Lb.alloc_event ?hg (v := fun g => .pointer (some ⟨g, 0, none⟩)) (cs := #[.int .i64 0, .int .i64 0]) (t := 34) (fr := (0, 0)) ?hr ?_; (case hg => rfl); (case hr => first | (go_simp; done) | (go_simp; rfl)); intro g13 hg13 w11 hx hb; have HT := Aside0.mk hx; have HB := Aside0.mk hb; have HG13 := Aside0.mk hg13; clear hx hb hg13)
      | ((with_reducible refine gate_store (t := 34) (p := 13) rfl ?_); refine Lb.store_whole rfl rfl 34 (.tmp 13) (.tmp 48) rfl (new := #[.int .i64 now, .int .i64 0]) rfl rfl HT.out rfl (by kernel_rfl) (by simp [Value.oneCell']) ?_; intro w12 hb hg; replace HA := Aside0.mk (HA.out.step (Lb.grown_below HB.out hg HB.out.size (by have := HG13.out; omega))); replace HT := Aside0.mk hb; clear hb hg HB HG13))
    (try simp only [Act.put, List.setIfInBounds_toArray, List.set_cons_zero, List.set_cons_succ])
    go_cut [] (fun wx => Aside0 (AD w wx g bN bM (last + 1) F m b d p (n0.born (last + 1) now) g7 g10 g11 now))
    case first =>
      have t0 : w12.cell? ⟨g13, 0, none⟩ = some (.int .i64 now) := (blk_cell HT.out 0).trans rfl
      have t1 : w12.cell? ⟨g13, 1, none⟩ = some (.int .i64 0) := (blk_cell HT.out 1).trans rfl
      obtain ⟨-, -, -, -, -, -, -, -, -, -, -, a11, a12, a13, a14, a15, a16, -, -, -, -⟩ := NodeAt.cells HA.out.nd
      have b11 := blk_frozen HA.out.nd 11
      have b12 := blk_frozen HA.out.nd 12
      have b13 := blk_frozen HA.out.nd 13
      have b14 := blk_frozen HA.out.nd 14
      have b15 := blk_frozen HA.out.nd 15
      have b16 := blk_frozen HA.out.nd 16
      go_region
      all_goals
        obtain ⟨h1, h2⟩ := set6 HA.out.nd now
        go_wp2_with fail
        go_meet
        exact ⟨(HA.out.nds (nn' := n0.born (last + 1) now) h1 h2).step (Lb.below_drew _)⟩
    case rest =>
      clear HA HT
      have HA := hcut
      clear hcut
      have a0 : wc.cell? ⟨g10, 0, none⟩ = some (.int .i64 2) := by rw [(NodeAt.cells HA.out.nd).1]; show some (Value.int .i64 n0.kind) = _; rw [HK.out]
      have p10 : wc.cell? ⟨b, 10, none⟩ = some (.int .i64 p.id) := (blk_cell HA.out.par 10).trans rfl
      go_upto_region 11 with (first
        | ((with_reducible refine gate_dst (N := 68) rfl ?_); refine Lb.alloc_event ?hg (v := fun g => .pointer (some ⟨g, 0, none⟩)) (cs := #[.pointer none, .int .i64 0, .pointer none, .int .i64 0, .int .i64 0]) (t := 103) (fr := (0, 0)) ?hr ?_; (case hg => rfl); (case hr => first | (go_simp; done) | (go_simp; rfl)); intro gd hgd u1 hx hb; have HGD : Aside0 (w.heap.size ≤ gd) := ⟨by have := HA.out.kp.size; omega⟩; replace HA := Aside0.mk (HA.out.step hb); have HDE := Aside0.mk (show DirE u1 gd from hx); clear hx hb hgd a0 p10)
        | ((with_reducible refine gate_store (t := 3) (p := 70) rfl ?_); refine Lb.store_one rfl rfl 3 (.tmp 70) (.const (.int .i64 2)) rfl (g := g10) (off := 2) (u := .int .i64 2) rfl rfl rfl rfl HA.out.nd (by kernel_rfl) (show 2 < 21 by decide) ?_; intro u2 hb hg; replace HDE := Aside0.mk (show DirE u2 gd from Lb.blk_grown' HDE.out hg (ne_type HDE.out HA.out.nd (by decide))); replace HA := Aside0.mk (HA.out.nds (nn' := { n0.born (last + 1) now with links := 2 }) hb hg); clear hb hg)
        | ((with_reducible refine gate_store (t := 3) (p := 71) rfl ?_); refine Lb.store_one rfl rfl 3 (.tmp 71) (.tmp 66) rfl (g := g10) (off := 19) (u := .int .i64 p.id) rfl rfl rfl rfl HA.out.nd (by kernel_rfl) (show 19 < 21 by decide) ?_; intro u3 hb hg; replace HDE := Aside0.mk (show DirE u3 gd from Lb.blk_grown' HDE.out hg (ne_type HDE.out HA.out.nd (by decide))); replace HA := Aside0.mk (HA.out.nds (nn' := { n0.born (last + 1) now with links := 2, parent := p.id }) hb hg); clear hb hg)
        | ((with_reducible refine gate_store (t := 41) (p := 72) rfl ?_); refine Lb.store_one rfl rfl 41 (.tmp 72) (.tmp 68) rfl (g := g10) (off := 20) (u := .pointer (some ⟨gd, 0, none⟩)) rfl rfl rfl rfl HA.out.nd (by kernel_rfl) (show 20 < 21 by decide) ?_; intro u4 hb hg; replace HDE := Aside0.mk (show DirE u4 gd from Lb.blk_grown' HDE.out hg (ne_type HDE.out HA.out.nd (by decide))); replace HA := Aside0.mk (HA.out.nds (nn' := { n0.born (last + 1) now with links := 2, parent := p.id, names := .pointer (some ⟨gd, 0, none⟩) }) hb hg); clear hb hg; have p2 : u4.cell? ⟨b, 2, none⟩ = some (.int .i64 p.links) := (blk_cell HA.out.par 2).trans rfl)
        | ((with_reducible refine gate_store (t := 3) (p := 81) rfl ?_); refine Lb.store_one rfl rfl 3 (.tmp 81) (.tmp 78) rfl (g := b) (off := 2) (u := .int .i64 (p.links + 1)) rfl rfl rfl rfl HA.out.par (by kernel_rfl) (show 2 < 21 by decide) ?_; intro u5 hb hg; replace HDE := Aside0.mk (show DirE u5 gd from Lb.blk_grown' HDE.out hg (ne_type HDE.out HA.out.par (by decide))); replace HA := Aside0.mk (HA.out.pars (p' := { p with links := p.links + 1 }) hb hg); clear hb hg p2))
      obtain ⟨e0, e1, e2, e3⟩ := call_cells HA.out.cl
      obtain ⟨s0, s1, s2, s3, s4, s7, s8, s9, s10, s11, s12, s13⟩ := set_cells HA.out.st
      have s5 : u5.cell? ⟨g11, 5, none⟩ = some (.int .i64 0) := (blk_cell HA.out.st 5).trans rfl
      have s6 : u5.cell? ⟨g11, 6, none⟩ = some (.int .i64 0) := (blk_cell HA.out.st 6).trans rfl
      go_upto_region 12 with (first
        | (go_at_call 34; (with_reducible refine (set_none g10 _ now 0 0 _ HA.out.nd).mono ?_); rintro e6 w14 ⟨rfl, hn, hk⟩; replace HDE := Aside0.mk (show DirE w14 gd from hk.keep _ _ HDE.out (by simpa using ne_type HDE.out HA.out.nd (by decide))); replace HA := Aside0.mk (HA.out.ndk hn hk); clear hn hk e0 e1 e2 e3 s0 s1 s2 s3 s4 s5 s6 s7 s8 s9 s10 s11 s12 s13))
      obtain ⟨c0, -, -⟩ := HA.out.fs.cells
      have a10 : w14.cell? ⟨g10, 10, none⟩ = some (.int .i64 (last + 1)) := (blk_cell HA.out.nd 10).trans rfl
      go_still_tail 7, (by kernel_rfl)
      change wpList _ _ _ _ _ w14.drew
      replace HDE := Aside0.mk (show DirE w14.drew gd from Lb.blk_below HDE.out (Lb.below_drew w14))
      replace HA := Aside0.mk (HA.out.step (Lb.below_drew w14))
      clear c0 a10
      generalize w14.drew = w15 at HA HDE ⊢
      obtain ⟨D0, hD0, hF0⟩ := HA.out.fs.nodes
      have HD0 := Aside0.mk (And.intro hD0 hF0)
      clear hD0 hF0
      go_wp2_with (first
        | (at_mapUpdate; refine wpList_mapUpdate_own _ rfl (.tmp 88) (.tmp 91) (.tmp 10) 91 rfl 3 95 int_law Tryz.underlying91 ptrR bN m D0 rfl HD0.out.1 (by have := HM.out; unfold maxLen; omega) _ _ _ rfl rfl (int_key (by have := HL.out; omega)) (.lit (.int .i64 g10)) [] rfl ?_; intro w16 ho hg; have hq := HA.out.fs.put HD0.out.1 HD0.out.2 ho hg; replace HDE := Aside0.mk (show DirE w16 gd from hq.2.keep _ _ HDE.out (by simpa using fun e : gd = bN => (HA.out.fs.neN HDE.out).1 e.symm)); replace HA := Aside0.mk (HA.out.mapped hq.1 hq.2); clear ho hg hq))
      replace HDE := Aside0.mk (show DirE w16.drew gd from Lb.blk_below HDE.out (Lb.below_drew w16))
      replace HA := Aside0.mk (HA.out.step (Lb.below_drew w16))
      have HF := Aside0.mk HA.out.fs
      have HP := Aside0.mk HA.out.par
      have HN := Aside0.mk HA.out.nd
      have HX := Aside0.mk HA.out.cl
      have HD := Aside0.mk HA.out.dir
      have HKP := Aside0.mk HA.out.kp
      clear HA HD0
      have n20 : w16.drew.cell? ⟨b, 20, none⟩ = some (.pointer (some ⟨d, 0, none⟩)) := by rw [← HPN.out]; exact (blk_cell HP.out 20).trans rfl
      have a10 : w16.drew.cell? ⟨g10, 10, none⟩ = some (.int .i64 (last + 1)) := (blk_cell HN.out 10).trans rfl
      go_region_held3 (fun w' => w'.cell? ⟨b, 20, none⟩ = some (.pointer (some ⟨d, 0, none⟩)) ∧ w'.cell? ⟨g10, 10, none⟩ = some (.int .i64 (last + 1))) (exact ⟨by rw [← HPN.out]; exact (blk_cell HP.out 20).trans rfl, (blk_cell HN.out 10).trans rfl⟩) (first
        | (go_at_call 83; (with_reducible refine (add_empty d s (last + 1) _ HD.out HS.out).mono ?_); rintro e17 w17 ⟨rfl, ho, hk⟩; replace HDE := Aside0.mk (show DirE w17 gd from hk.keep _ _ HDE.out (by have := HGD.out; have := HLD.out; simp; omega)); have HO := Aside0.mk ho; replace HF := Aside0.mk (HF.out.keep hk (by simpa using ne_type HF.out.blk HD.out (by decide)) (by simpa using (HF.out.neN HD.out).1) (by simpa using (HF.out.neN HD.out).2)); replace HP := Aside0.mk (hk.keep _ _ HP.out (by simpa using ne_type HP.out HD.out (by decide))); replace HN := Aside0.mk (hk.keep _ _ HN.out (by simpa using ne_type HN.out HD.out (by decide))); replace HX := Aside0.mk (hk.typ _ _ _ _ HX.out (by decide)); replace HKP := Aside0.mk (HKP.out.trans (hk.mono (by simp))); clear ho hk))
      clear n20 a10
      obtain ⟨e0, e1, e2, e3⟩ := call_cells HX.out
      go_wp2_with (first
        | (go_at_call 84; (with_reducible refine (changed_one g bN bM (last + 1) _ (m + 1) b d _ now (last + 1) s _ HF.out (by have := HM.out; omega) HP.out HO.out HPN.out HPI.out (by have := HS.out.size; unfold maxLen; omega)).mono ?_); rintro e18 w18 ⟨rfl, hf, hp, hk⟩; replace HDE := Aside0.mk (show DirE w18 gd from hk.keep _ _ HDE.out (by have h2 := (HF.out.neN HDE.out).2; have h3 := ne_type HDE.out HP.out (by decide); simp; exact ⟨fun e => h2 e.symm, h3⟩)); replace HN := Aside0.mk (hk.keep _ _ HN.out (by have := HG.out; have := HLT.out; have h2 := (HF.out.neN HN.out).2; simp; omega)); replace HO := Aside0.mk (HO.out.keep hk (by obtain ⟨cs, hd⟩ := HO.out.blk; have h2 := (HF.out.neN hd).2; have h3 := ne_type hd HP.out (by decide); simp; exact ⟨fun e => h2 e.symm, h3⟩)); replace HKP := Aside0.mk (HKP.out.trans (hk.mono (by simp))); replace HF := Aside0.mk hf; replace HP := Aside0.mk hp; clear hf hp hk e0 e1 e2 e3; have a10 : w18.cell? ⟨g10, 10, none⟩ = some (.int .i64 (last + 1)) := (blk_cell HN.out 10).trans rfl)
        | (go_at_call 30; (with_reducible refine (touch_calls g bN bM (last + 1) _ (m + 1 + 2) (last + 1) ⟨#[]⟩ _ HF.out (by have := HM.out; omega) ⟨by have := HL.out; omega, by have := HL.out; omega⟩ (Nat.zero_le _)).mono ?_); rintro e19 w19 ⟨rfl, hf, hk⟩; have hn : ∀ (k : Nat) (cs : Array Value) (t : TypeId) (f : Nat × Nat), w18.heap[k]? = some (.cells cs t f) → k ∉ [bM] := fun k cs t f hk' => (by simpa using fun e : k = bM => (HF.out.neN hk').2 e.symm); replace HN := Aside0.mk (hk.keep _ _ HN.out (hn _ _ _ _ HN.out)); replace HDE := Aside0.mk (show DirE w19 gd from hk.keep _ _ HDE.out (hn _ _ _ _ HDE.out)); replace HP := Aside0.mk (hk.keep _ _ HP.out (hn _ _ _ _ HP.out)); replace HO := Aside0.mk (HO.out.keep hk (by obtain ⟨cs, hd⟩ := HO.out.blk; exact hn _ _ _ _ hd)); replace HKP := Aside0.mk (HKP.out.trans (hk.mono (by simp))); replace HF := Aside0.mk hf; clear hf hk hn a10; have a10 : w19.cell? ⟨g10, 10, none⟩ = some (.int .i64 (last + 1)) := (blk_cell HN.out 10).trans rfl))
      go_ret
      exact ⟨rfl, g10, gd, HG.out, HGD.out, HF.out, HP.out, HO.out, HN.out, HDE.out, HKP.out⟩
end Go.Proofs.YtlnfadlgjcnngaaGreat.Co
