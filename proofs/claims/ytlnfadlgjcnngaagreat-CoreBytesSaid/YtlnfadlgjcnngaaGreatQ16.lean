/- Create: a file in an empty directory. -/
import Derived.Test.YtlnfadlgjcnngaaGreatQ11
import Derived.Test.YtlnfadlgjcnngaaGreatQ14
namespace Go.Proofs.YtlnfadlgjcnngaaGreat.Co
open Go.RowKit Go.Maps Go.Lib Go.Proofs.YtlnfadlgjcnngaaGreat.Ap Go.Proofs.YtlnfadlgjcnngaaGreatW.PrintWords Go.Proofs.YtlnfadlgjcnngaaGreatW.PrintLast Go.Proofs.YtlnfadlgjcnngaaGreatW.PrintMore
set_option linter.unusedVariables false
set_option linter.unusedSimpArgs false

/-- what is known while a file is created -/
structure CR (w0 w : World) (g bN bM : Nat) (last : Int) (F : Int → Option Nat) (m b d : Nat) (p : Nd) (g8 g12 : Nat) (now : Int) : Prop where
  fs : FsAt w g bN bM last F m
  par : NodeAt w b p
  dir : DirE w d
  cl : w.heap[g8]? = some (.cells (callC now) 29 (0, 0))
  st : w.heap[g12]? = some (.cells (setC false false 0 0) 36 (0, 0))
  bel : Below w0.heap.size w0 w
  lt : w0.heap.size ≤ g12
theorem CR.step {w0 w w' : World} {g bN bM : Nat} {last : Int} {F : Int → Option Nat} {m b d : Nat} {p : Nd} {g8 g12 : Nat} {now : Int} (h : CR w0 w g bN bM last F m b d p g8 g12 now) (hb : Below w.heap.size w w') : CR w0 w' g bN bM last F m b d p g8 g12 now :=
  ⟨h.fs.step hb, Lb.blk_below h.par hb, Lb.blk_below h.dir hb, Lb.blk_below h.cl hb, Lb.blk_below h.st hb, below_step h.bel hb, h.lt⟩
theorem CR.set {w0 w w' : World} {g bN bM : Nat} {last : Int} {F : Int → Option Nat} {m b d : Nat} {p : Nd} {g8 g12 : Nat} {now : Int} (h : CR w0 w g bN bM last F m b d p g8 g12 now) (hb : w'.heap[g12]? = some (.cells (setC false false 0 0) 36 (0, 0))) (hg : w.grownBy w' (some g12)) (hlt : b < w0.heap.size) : CR w0 w' g bN bM last F m b d p g8 g12 now := by
  have hm : ∀ (k : Nat) (cs : Array Value) (t : TypeId) (f : Nat × Nat), w.heap[k]? = some (.cells cs t f) → t ≠ 36 → w'.heap[k]? = some (.cells cs t f) := fun k cs t f hk ht => Lb.blk_grown' hk hg (ne_type hk h.st ht)
  refine ⟨?_, hm _ _ _ _ h.par (by decide), hm _ _ _ _ h.dir (by decide), hm _ _ _ _ h.cl (by decide), hb, Lb.grown_below h.bel hg h.bel.size h.lt, h.lt⟩
  have hk : Kp [g12] w w' := ⟨Lb.grown_below (Below.refl 0 w) hg (Nat.zero_le _) (Nat.zero_le _), fun k o hk hn => Lb.blk_grown' hk hg (by simpa using hn), fun k cs t f hk hn => by
    by_cases e : k = g12
    · subst e
      have e2 := h.st
      rw [hk] at e2
      injection e2 with e2
      injection e2 with e3 e4 e5
      subst e3 e4 e5
      exact hb
    · exact Lb.blk_grown' hk hg e⟩
  have hne := h.fs.neN h.st
  exact h.fs.keep hk (by simpa using ne_type h.fs.blk h.st (by decide)) (by simpa using hne.1) (by simpa using hne.2)
theorem setC_one (hm hz : Bool) (mode size : Int) : ∀ q ∈ (setC hm hz mode size).toList, q.oneCell' = true := by simp [Value.oneCell']

set_option maxRecDepth 100000 in
set_option maxHeartbeats 4000000 in
theorem create_zero (g bN bM : Nat) (last : Int) (F : Int → Option Nat) (m b d : Nat) (p : Nd) (now i : Int) (s verf : ByteArray) (w : World) (h : FsAt w g bN bM last F m) (hm : m ≤ 800000) (hl0 : 0 ≤ last) (hl : last ≤ 1000000) (hi : InI i) (hF : F i = some b) (hp : NodeAt w b p) (hd : DirE w d) (hpk : p.kind = 2) (hpn : p.names = .pointer (some ⟨d, 0, none⟩)) (hpi : InI p.id) (hs : Good s) :
    Calls Tryz.prog 10 #[.pointer (some ⟨g, 0, none⟩), rootC now, .int .i64 i, .string s, .int .i64 0, setV false false 0 0, .string verf] w fun e w' => e = .returned (.tuple #[.int .i64 (last + 1), .int .i64 0]) ∧ ∃ g10, w.heap.size ≤ g10 ∧ FsAt w' g bN bM (last + 1) (putF F (last + 1) g10) (m + 4) ∧ NodeAt w' b (p.chg now) ∧ DirO w' d s (last + 1) ∧ NodeAt w' g10 (Nd.born { nd0 with kind := 1, mode := 420, verf := ⟨#[]⟩ } (last + 1) now) ∧ Kp [g, bN, bM, b, d] w w' := by
  have HM := Aside0.mk hm
  have HL := Aside0.mk (And.intro hl0 hl)
  have H := Aside0.mk h
  have HI := Aside0.mk (And.intro hi hF)
  have HP := Aside0.mk hp
  have HD := Aside0.mk hd
  have HPN := Aside0.mk hpn
  have HPK := Aside0.mk hpk
  have HPI := Aside0.mk hpi
  have HS := Aside0.mk hs
  have HB := Aside0.mk (Below.refl w.heap.size w)
  have HLT : Aside0 (b < w.heap.size) := ⟨blk_lt hp⟩
  clear h hm hp hd hpn hpi hs hpk hi hF hl0 hl
  go_enter Tryz.func10, Tryz.ntmps10
  go_upto_region 9 with (first
    | ((with_reducible refine gate_dst (N := 8) rfl ?_); refine Lb.alloc_event ?hg (v := fun g => .pointer (some ⟨g, 0, none⟩)) (cs := callC now) (t := 29) (fr := (0, 0)) ?hr ?_; (case hg => rfl); (case hr => first | (go_simp; done) | (go_simp; rfl)); intro g8 hg8 w1 hx hb; have HX := Aside0.mk hx; replace H := Aside0.mk (H.out.step hb); replace HP := Aside0.mk (Lb.blk_below HP.out hb); replace HD := Aside0.mk (Lb.blk_below HD.out hb); replace HB := Aside0.mk (below_step HB.out hb); clear hx hb hg8)
    | ((with_reducible refine gate_dst (N := 12) rfl ?_); refine Lb.alloc_event ?hg (v := fun g => .pointer (some ⟨g, 0, none⟩)) (cs := setC false false 0 0) (t := 36) (fr := (0, 0)) ?hr ?_; (case hg => rfl); (case hr => first | (go_simp; done) | (go_simp; rfl)); intro g12 hg12 w2 hx hb; have HC : Aside0 (CR w w2 g bN bM last F m b d p g8 g12 now) := ⟨⟨H.out.step hb, Lb.blk_below HP.out hb, Lb.blk_below HD.out hb, Lb.blk_below HX.out hb, hx, below_step HB.out hb, by have := HB.out.size; omega⟩⟩; clear H HP HD HX HB hx hb hg12)
    | ((with_reducible refine gate_dst (N := 27) rfl ?_); refine wpList_load_row rfl 29 (.tmp 8) rfl g8 rfl 29 (callC now) (0, 0) _ HC.out.cl Tryz.underlying29 rfl (by kernel_rfl) ?_)
    | (go_at_call 31; (with_reducible refine (spot_calls g bN bM last F m b p now i s _ HC.out.fs HI.out.1 HI.out.2 HC.out.par HPK.out HS.out).mono ?_); rintro e w4 ⟨rfl, hb⟩; replace HC := Aside0.mk (HC.out.step hb); clear hb))
  have p20 := (blk_cell HC.out.par 20).trans (show (ndC p)[20]? = some p.names from rfl)
  rw [HPN.out] at p20
  go_upto_region 24 with (first
    | (go_at_call 32; (with_reducible refine (get_empty d s _ HC.out.dir).mono ?_); rintro e w5 ⟨rfl, hb⟩; replace HC := Aside0.mk (HC.out.step hb); clear hb p20)
    | ((with_reducible refine gate_dst (N := 18) rfl ?_); refine box_event ?hg (N := 18) ?hd (cs := #[.string ⟨#[]⟩, .int .i64 0, .int .i64 0]) (t := 108) ?hr ?_; (case hd => rfl); (case hg => rfl); (case hr => first | (go_simp; done) | (go_simp; rfl)); intro g18 hg18 w6 hx hb; have HE := Aside0.mk hx; have HBE := Aside0.mk hb; have HGE := Aside0.mk hg18; have HCE := HC; clear HC; clear hx hb hg18)
    | ((with_reducible refine gate_store (t := 108) (p := 18) rfl ?_); refine Lb.store_whole rfl rfl 108 (.tmp 18) (.tmp 52) rfl (new := #[.string ⟨#[]⟩, .int .i64 0, .int .i64 0]) rfl rfl HE.out rfl (by kernel_rfl) (by simp [Value.oneCell']) ?_; intro w7 hb7 hg7; have HC := Aside0.mk (HCE.out.step (Lb.grown_below HBE.out hg7 HBE.out.size (by have := HGE.out; omega))); clear hb7 hg7 HE HBE HGE HCE))
  go_upto_region 29 with (first
    | ((with_reducible refine gate_dst (N := 23) rfl ?_); refine box_event ?hg (N := 23) ?hd (cs := ndC nd0) (t := 43) ?hr ?_; (case hd => rfl); (case hg => rfl); (case hr => first | (go_simp; done) | (go_simp; rfl)); intro g23 hg23 w8 hx hb; have HE := Aside0.mk hx; have HBE := Aside0.mk hb; have HGE := Aside0.mk hg23; have HCE := HC; clear HC; clear hx hb hg23)
    | ((with_reducible refine gate_store (t := 43) (p := 23) rfl ?_); refine Lb.store_whole rfl rfl 43 (.tmp 23) (.tmp 136) rfl (new := ndC { nd0 with kind := 1, mode := 420, verf := ⟨#[]⟩ }) rfl rfl HE.out rfl (by kernel_rfl) (ndC_one _ none rfl) ?_; intro w9 hb9 hg9; have HC := Aside0.mk (HCE.out.step (Lb.grown_below HBE.out hg9 HBE.out.size (by have := HGE.out; omega))); have HN := Aside0.mk hb9; clear hb9 hg9 HE HBE HGE HCE; have s3 : w9.cell? ⟨g12, 3, none⟩ = some (.bool false) := (blk_cell HC.out.st 3).trans rfl))
  go_wp2_with (first
    | ((with_reducible refine gate_dst (N := 146) rfl ?_); refine wpList_load_row rfl 29 (.tmp 8) rfl g8 rfl 29 (callC now) (0, 0) _ HC.out.cl Tryz.underlying29 rfl (by kernel_rfl) ?_)
    | ((with_reducible refine gate_dst (N := 149) rfl ?_); refine wpList_load_row rfl 43 (.tmp 23) rfl g23 rfl 43 (ndC { nd0 with kind := 1, mode := 420, verf := ⟨#[]⟩ }) (0, 0) _ HN.out Tryz.underlying43 rfl (by kernel_rfl) ?_)
    | ((with_reducible refine gate_dst (N := 150) rfl ?_); refine wpList_load_row rfl 36 (.tmp 12) rfl g12 rfl 36 (setC false false 0 0) (0, 0) _ HC.out.st Tryz.underlying36 rfl (by kernel_rfl) ?_)
    | (go_at_call 36; (with_reducible refine (add_file g bN bM last F m b d p { nd0 with kind := 1, mode := 420, verf := ⟨#[]⟩ } now s _ HC.out.fs HM.out HL.out.1 HL.out.2 HC.out.par HC.out.dir HPN.out HPI.out rfl HS.out).mono ?_); rintro e w10 ⟨rfl, g10, r1, r2, r3, r4, r5, r6⟩; have HR := Aside0.mk (And.intro (Nat.le_trans HC.out.bel.size r1) (And.intro r2 (And.intro r3 (And.intro r4 (And.intro r5 ((Kp.of HC.out.bel).trans r6)))))); clear r1 r2 r3 r4 r5 r6))
  go_ret2
  exact ⟨rfl, g10, HR.out⟩

set_option maxRecDepth 100000 in
set_option maxHeartbeats 4000000 in
theorem create_two (g bN bM : Nat) (last : Int) (F : Int → Option Nat) (m b d : Nat) (p : Nd) (now i : Int) (s verf : ByteArray) (w : World) (h : FsAt w g bN bM last F m) (hm : m ≤ 800000) (hl0 : 0 ≤ last) (hl : last ≤ 1000000) (hi : InI i) (hF : F i = some b) (hp : NodeAt w b p) (hd : DirE w d) (hpk : p.kind = 2) (hpn : p.names = .pointer (some ⟨d, 0, none⟩)) (hpi : InI p.id) (hs : Good s) :
    Calls Tryz.prog 10 #[.pointer (some ⟨g, 0, none⟩), rootC now, .int .i64 i, .string s, .int .i64 2, setV false false 0 0, .string verf] w fun e w' => e = .returned (.tuple #[.int .i64 (last + 1), .int .i64 0]) ∧ ∃ g10, w.heap.size ≤ g10 ∧ FsAt w' g bN bM (last + 1) (putF F (last + 1) g10) (m + 4) ∧ NodeAt w' b (p.chg now) ∧ DirO w' d s (last + 1) ∧ NodeAt w' g10 (Nd.born { nd0 with kind := 1, mode := 420, verf := verf } (last + 1) now) ∧ Kp [g, bN, bM, b, d] w w' := by
  have HM := Aside0.mk hm
  have HL := Aside0.mk (And.intro hl0 hl)
  have H := Aside0.mk h
  have HI := Aside0.mk (And.intro hi hF)
  have HP := Aside0.mk hp
  have HD := Aside0.mk hd
  have HPN := Aside0.mk hpn
  have HPK := Aside0.mk hpk
  have HPI := Aside0.mk hpi
  have HS := Aside0.mk hs
  have HB := Aside0.mk (Below.refl w.heap.size w)
  have HLT : Aside0 (b < w.heap.size) := ⟨blk_lt hp⟩
  clear h hm hp hd hpn hpi hs hpk hi hF hl0 hl
  go_enter Tryz.func10, Tryz.ntmps10
  go_upto_region 9 with (first
    | ((with_reducible refine gate_store (t := 36) (p := 12) rfl ?_); refine Lb.store_whole rfl rfl 36 (.tmp 12) (.tmp 44) rfl (new := setC false false 0 0) rfl rfl HC.out.st rfl (by kernel_rfl) (setC_one _ _ _ _) ?_; intro w3 hb3 hg3; replace HC := Aside0.mk (HC.out.set hb3 hg3 HLT.out); clear hb3 hg3)
    | ((with_reducible refine gate_dst (N := 8) rfl ?_); refine Lb.alloc_event ?hg (v := fun g => .pointer (some ⟨g, 0, none⟩)) (cs := callC now) (t := 29) (fr := (0, 0)) ?hr ?_; (case hg => rfl); (case hr => first | (go_simp; done) | (go_simp; rfl)); intro g8 hg8 w1 hx hb; have HX := Aside0.mk hx; replace H := Aside0.mk (H.out.step hb); replace HP := Aside0.mk (Lb.blk_below HP.out hb); replace HD := Aside0.mk (Lb.blk_below HD.out hb); replace HB := Aside0.mk (below_step HB.out hb); clear hx hb hg8)
    | ((with_reducible refine gate_dst (N := 12) rfl ?_); refine Lb.alloc_event ?hg (v := fun g => .pointer (some ⟨g, 0, none⟩)) (cs := setC false false 0 0) (t := 36) (fr := (0, 0)) ?hr ?_; (case hg => rfl); (case hr => first | (go_simp; done) | (go_simp; rfl)); intro g12 hg12 w2 hx hb; have HC : Aside0 (CR w w2 g bN bM last F m b d p g8 g12 now) := ⟨⟨H.out.step hb, Lb.blk_below HP.out hb, Lb.blk_below HD.out hb, Lb.blk_below HX.out hb, hx, below_step HB.out hb, by have := HB.out.size; omega⟩⟩; clear H HP HD HX HB hx hb hg12)
    | ((with_reducible refine gate_dst (N := 27) rfl ?_); refine wpList_load_row rfl 29 (.tmp 8) rfl g8 rfl 29 (callC now) (0, 0) _ HC.out.cl Tryz.underlying29 rfl (by kernel_rfl) ?_)
    | (go_at_call 31; (with_reducible refine (spot_calls g bN bM last F m b p now i s _ HC.out.fs HI.out.1 HI.out.2 HC.out.par HPK.out HS.out).mono ?_); rintro e w4 ⟨rfl, hb⟩; replace HC := Aside0.mk (HC.out.step hb); clear hb))
  have p20 := (blk_cell HC.out.par 20).trans (show (ndC p)[20]? = some p.names from rfl)
  rw [HPN.out] at p20
  go_upto_region 24 with (first
    | (go_at_call 32; (with_reducible refine (get_empty d s _ HC.out.dir).mono ?_); rintro e w5 ⟨rfl, hb⟩; replace HC := Aside0.mk (HC.out.step hb); clear hb p20)
    | ((with_reducible refine gate_dst (N := 18) rfl ?_); refine box_event ?hg (N := 18) ?hd (cs := #[.string ⟨#[]⟩, .int .i64 0, .int .i64 0]) (t := 108) ?hr ?_; (case hd => rfl); (case hg => rfl); (case hr => first | (go_simp; done) | (go_simp; rfl)); intro g18 hg18 w6 hx hb; have HE := Aside0.mk hx; have HBE := Aside0.mk hb; have HGE := Aside0.mk hg18; have HCE := HC; clear HC; clear hx hb hg18)
    | ((with_reducible refine gate_store (t := 108) (p := 18) rfl ?_); refine Lb.store_whole rfl rfl 108 (.tmp 18) (.tmp 52) rfl (new := #[.string ⟨#[]⟩, .int .i64 0, .int .i64 0]) rfl rfl HE.out rfl (by kernel_rfl) (by simp [Value.oneCell']) ?_; intro w7 hb7 hg7; have HC := Aside0.mk (HCE.out.step (Lb.grown_below HBE.out hg7 HBE.out.size (by have := HGE.out; omega))); clear hb7 hg7 HE HBE HGE HCE))
  go_upto_region 29 with (first
    | ((with_reducible refine gate_dst (N := 23) rfl ?_); refine box_event ?hg (N := 23) ?hd (cs := ndC nd0) (t := 43) ?hr ?_; (case hd => rfl); (case hg => rfl); (case hr => first | (go_simp; done) | (go_simp; rfl)); intro g23 hg23 w8 hx hb; have HE := Aside0.mk hx; have HBE := Aside0.mk hb; have HGE := Aside0.mk hg23; have HCE := HC; clear HC; clear hx hb hg23)
    | ((with_reducible refine gate_store (t := 43) (p := 23) rfl ?_); refine Lb.store_whole rfl rfl 43 (.tmp 23) (.tmp 136) rfl (new := ndC { nd0 with kind := 1, mode := 420, verf := verf }) rfl rfl HE.out rfl (by kernel_rfl) (ndC_one _ none rfl) ?_; intro w9 hb9 hg9; have HC := Aside0.mk (HCE.out.step (Lb.grown_below HBE.out hg9 HBE.out.size (by have := HGE.out; omega))); have HN := Aside0.mk hb9; clear hb9 hg9 HE HBE HGE HCE; have s3 : w9.cell? ⟨g12, 3, none⟩ = some (.bool false) := (blk_cell HC.out.st 3).trans rfl))
  go_wp2_with (first
    | ((with_reducible refine gate_dst (N := 146) rfl ?_); refine wpList_load_row rfl 29 (.tmp 8) rfl g8 rfl 29 (callC now) (0, 0) _ HC.out.cl Tryz.underlying29 rfl (by kernel_rfl) ?_)
    | ((with_reducible refine gate_dst (N := 149) rfl ?_); refine wpList_load_row rfl 43 (.tmp 23) rfl g23 rfl 43 (ndC { nd0 with kind := 1, mode := 420, verf := verf }) (0, 0) _ HN.out Tryz.underlying43 rfl (by kernel_rfl) ?_)
    | ((with_reducible refine gate_dst (N := 150) rfl ?_); refine wpList_load_row rfl 36 (.tmp 12) rfl g12 rfl 36 (setC false false 0 0) (0, 0) _ HC.out.st Tryz.underlying36 rfl (by kernel_rfl) ?_)
    | (go_at_call 36; (with_reducible refine (add_file g bN bM last F m b d p { nd0 with kind := 1, mode := 420, verf := verf } now s _ HC.out.fs HM.out HL.out.1 HL.out.2 HC.out.par HC.out.dir HPN.out HPI.out rfl HS.out).mono ?_); rintro e w10 ⟨rfl, g10, r1, r2, r3, r4, r5, r6⟩; have HR := Aside0.mk (And.intro (Nat.le_trans HC.out.bel.size r1) (And.intro r2 (And.intro r3 (And.intro r4 (And.intro r5 ((Kp.of HC.out.bel).trans r6)))))); clear r1 r2 r3 r4 r5 r6))
  go_ret2
  exact ⟨rfl, g10, HR.out⟩

end Go.Proofs.YtlnfadlgjcnngaaGreat.Co
