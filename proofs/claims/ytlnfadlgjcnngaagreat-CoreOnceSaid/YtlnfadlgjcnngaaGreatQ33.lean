/- Create, exclusive, of a name that is there. -/
import Derived.Test.YtlnfadlgjcnngaaGreatQ32
namespace Go.Proofs.YtlnfadlgjcnngaaGreat.Co
open Go.RowKit Go.Maps Go.Lib Go.Proofs.YtlnfadlgjcnngaaGreat.Ap Go.Proofs.YtlnfadlgjcnngaaGreatW.PrintWords Go.Proofs.YtlnfadlgjcnngaaGreatW.PrintLast Go.Proofs.YtlnfadlgjcnngaaGreatW.PrintMore
set_option linter.unusedVariables false
set_option linter.unusedSimpArgs false

/-- what is known while a name that is there is created again -/
structure CA (w0 w : World) (g bN bM : Nat) (last : Int) (F : Int → Option Nat) (m b d : Nat) (p : Nd) (s : ByteArray) (id : Int) (b2 : Nat) (n2 : Nd) (g8 g12 : Nat) (now : Int) : Prop where
  fs : FsAt w g bN bM last F m
  par : NodeAt w b p
  dir : DirO w d s id
  nd : NodeAt w b2 n2
  cl : w.heap[g8]? = some (.cells (callC now) 29 (0, 0))
  st : w.heap[g12]? = some (.cells (setC false false 0 0) 36 (0, 0))
  bel : Below w0.heap.size w0 w
  lt : w0.heap.size ≤ g12
section
variable {w0 w w' : World} {g bN bM : Nat} {last : Int} {F : Int → Option Nat} {m b d : Nat} {p : Nd} {s : ByteArray} {id : Int} {b2 : Nat} {n2 : Nd} {g8 g12 : Nat} {now : Int}
theorem CA.step (h : CA w0 w g bN bM last F m b d p s id b2 n2 g8 g12 now) (hb : Below w.heap.size w w') : CA w0 w' g bN bM last F m b d p s id b2 n2 g8 g12 now :=
  ⟨h.fs.step hb, Lb.blk_below h.par hb, h.dir.keep (Kp.of hb : Kp [] _ _) (by simp), Lb.blk_below h.nd hb, Lb.blk_below h.cl hb, Lb.blk_below h.st hb, below_step h.bel hb, h.lt⟩
theorem CA.set (h : CA w0 w g bN bM last F m b d p s id b2 n2 g8 g12 now) (hb : w'.heap[g12]? = some (.cells (setC false false 0 0) 36 (0, 0))) (hg : w.grownBy w' (some g12)) : CA w0 w' g bN bM last F m b d p s id b2 n2 g8 g12 now := by
  have hm : ∀ (k : Nat) (cs : Array Value) (t : TypeId) (f : Nat × Nat), w.heap[k]? = some (.cells cs t f) → t ≠ 36 → w'.heap[k]? = some (.cells cs t f) := fun k cs t f hk ht => Lb.blk_grown' hk hg (ne_type hk h.st ht)
  have hk : Kp [g12] w w' := ⟨Lb.grown_below (Below.refl 0 w) hg (Nat.zero_le _) (Nat.zero_le _), fun k o hk hn => Lb.blk_grown' hk hg (by simpa using hn), fun k cs t f hk hn => by
    by_cases e : k = g12
    · subst e
      have e2 := h.st
      rw [hk] at e2
      injection e2 with e2
      injection e2 with e3 e4 e5
      subst e3 e4 e5
      exact hb
    · exact Lb.blk_grown' hk hg e⟩
  have hne := h.fs.neN h.st
  obtain ⟨cs, hd⟩ := h.dir.blk
  exact ⟨h.fs.keep hk (by simpa using ne_type h.fs.blk h.st (by decide)) (by simpa using hne.1) (by simpa using hne.2), hm _ _ _ _ h.par (by decide), h.dir.keep hk (by simpa using ne_type hd h.st (by decide)), hm _ _ _ _ h.nd (by decide), hm _ _ _ _ h.cl (by decide), hb, Lb.grown_below h.bel hg h.bel.size h.lt, h.lt⟩
end
set_option maxRecDepth 100000 in
set_option maxHeartbeats 4000000 in
theorem create_again (g bN bM : Nat) (last : Int) (F : Int → Option Nat) (m b d b2 : Nat) (p n2 : Nd) (now i id : Int) (s verf : ByteArray) (w : World) (h : FsAt w g bN bM last F m) (hi : InI i) (hF : F i = some b) (hp : NodeAt w b p) (hd : DirO w d s id) (hpk : p.kind = 2) (hpn : p.names = .pointer (some ⟨d, 0, none⟩)) (hs : Good s) (hid : InI id) (hF2 : F id = some b2) (hn2 : NodeAt w b2 n2) (hk2 : n2.kind = 1) (q0 q1 : Bool) (hq0 : n2.verf.toList.isEmpty = q0) (hq1 : (n2.verf.toList == verf.toList) = q1) (hidn : n2.id = id) (R : Value) (hR : (if q0 = false ∧ q1 = true then .tuple #[.int .i64 id, .int .i64 0] else .tuple #[.int .i64 0, .int .i64 17]) = R) :
    Calls Tryz.prog 10 #[.pointer (some ⟨g, 0, none⟩), rootC now, .int .i64 i, .string s, .int .i64 2, setV false false 0 0, .string verf] w fun e w' => e = .returned R ∧ Below w.heap.size w w' := by
  have H := Aside0.mk h
  have HI := Aside0.mk (And.intro hi hF)
  have HP := Aside0.mk hp
  have HD := Aside0.mk hd
  have HPN := Aside0.mk hpn
  have HPK := Aside0.mk hpk
  have HS := Aside0.mk hs
  have HN := Aside0.mk hn2
  have HI2 := Aside0.mk (And.intro hid hF2)
  have HK2 := Aside0.mk hk2
  have HQ := Aside0.mk (And.intro hq0 hq1)
  have HB := Aside0.mk (Below.refl w.heap.size w)
  clear h hp hd hpn hs hpk hi hF hid hF2 hn2 hk2 hq0 hq1
  have HIN := Aside0.mk hidn
  clear hidn
  have HR := Aside0.mk hR
  clear hR
  go_enter Tryz.func10, Tryz.ntmps10
  go_upto_region 9 with (first
    | ((with_reducible refine gate_store (t := 36) (p := 12) rfl ?_); refine Lb.store_whole rfl rfl 36 (.tmp 12) (.tmp 44) rfl (new := setC false false 0 0) rfl rfl HC.out.st rfl (by kernel_rfl) (setC_one _ _ _ _) ?_; intro w3 hb3 hg3; replace HC := Aside0.mk (HC.out.set hb3 hg3); clear hb3 hg3)
    | ((with_reducible refine gate_dst (N := 8) rfl ?_); refine Lb.alloc_event ?hg (v := fun g => .pointer (some ⟨g, 0, none⟩)) (cs := callC now) (t := 29) (fr := (0, 0)) ?hr ?_; (case hg => rfl); (case hr => first | (go_simp; done) | (go_simp; rfl)); intro g8 hg8 w1 hx hb; have HX := Aside0.mk hx; replace H := Aside0.mk (H.out.step hb); replace HP := Aside0.mk (Lb.blk_below HP.out hb); replace HN := Aside0.mk (Lb.blk_below HN.out hb); replace HD := Aside0.mk (HD.out.keep (Kp.of hb : Kp [] _ _) (by simp)); replace HB := Aside0.mk (below_step HB.out hb); clear hx hb hg8)
    | ((with_reducible refine gate_dst (N := 12) rfl ?_); refine Lb.alloc_event ?hg (v := fun g => .pointer (some ⟨g, 0, none⟩)) (cs := setC false false 0 0) (t := 36) (fr := (0, 0)) ?hr ?_; (case hg => rfl); (case hr => first | (go_simp; done) | (go_simp; rfl)); intro g12 hg12 w2 hx hb; have HC : Aside0 (CA w w2 g bN bM last F m b d p s id b2 n2 g8 g12 now) := ⟨⟨H.out.step hb, Lb.blk_below HP.out hb, HD.out.keep (Kp.of hb : Kp [] _ _) (by simp), Lb.blk_below HN.out hb, Lb.blk_below HX.out hb, hx, below_step HB.out hb, by have := HB.out.size; omega⟩⟩; clear H HP HD HN HX HB hx hb hg12)
    | ((with_reducible refine gate_dst (N := 27) rfl ?_); refine wpList_load_row rfl 29 (.tmp 8) rfl g8 rfl 29 (callC now) (0, 0) _ HC.out.cl Tryz.underlying29 rfl (by kernel_rfl) ?_)
    | (go_at_call 31; (with_reducible refine (spot_calls g bN bM last F m b p now i s _ HC.out.fs HI.out.1 HI.out.2 HC.out.par HPK.out HS.out).mono ?_); rintro e w4 ⟨rfl, hb⟩; replace HC := Aside0.mk (HC.out.step hb); clear hb))
  have p20 := (blk_cell HC.out.par 20).trans (show (ndC p)[20]? = some p.names from rfl)
  rw [HPN.out] at p20
  go_upto_region 11 with (first
    | (go_at_call 32; (with_reducible refine (get_one d s id _ HC.out.dir).mono ?_); rintro e w5 ⟨rfl, hb⟩; replace HC := Aside0.mk (HC.out.step hb); clear hb p20)
    | ((with_reducible refine gate_dst (N := 18) rfl ?_); refine box_event ?hg (N := 18) ?hd (cs := #[.string ⟨#[]⟩, .int .i64 0, .int .i64 0]) (t := 108) ?hr ?_; (case hd => rfl); (case hg => rfl); (case hr => first | (go_simp; done) | (go_simp; rfl)); intro g18 hg18 w6 hx hb; have HE := Aside0.mk hx; have HBE := Aside0.mk hb; have HGE := Aside0.mk hg18; have HCE := HC; clear HC; clear hx hb hg18)
    | ((with_reducible refine gate_store (t := 108) (p := 18) rfl ?_); refine Lb.store_whole rfl rfl 108 (.tmp 18) (.tmp 52) rfl (new := entC s id) rfl rfl HE.out rfl (by kernel_rfl) (by simp [Value.oneCell']) ?_; intro w7 hb7 hg7; have HC := Aside0.mk (HCE.out.step (Lb.grown_below HBE.out hg7 HBE.out.size (by have := HGE.out; omega))); have HX := Aside0.mk hb7; clear hb7 hg7 HE HBE HGE HCE))
  replace HC := Aside0.mk (HC.out.step (Lb.below_drew _))
  replace HX := Aside0.mk (Lb.blk_below HX.out (Lb.below_drew _))
  obtain ⟨f0, -, -⟩ := HC.out.fs.cells
  have x1 := (blk_cell HX.out 1).trans (show (entC s id)[1]? = some (.int .i64 id) from rfl)
  have hlk := HC.out.fs.ptr HI2.out.1 b2 HI2.out.2
  go_region
  all_goals
    clear f0 x1 hlk
    have n0 := (blk_cell HC.out.nd 0).trans (show (ndC n2)[0]? = some (.int .i64 n2.kind) from rfl)
    rw [HK2.out] at n0
    have n10 := (blk_cell HC.out.nd 10).trans (show (ndC n2)[10]? = some (.int .i64 n2.id) from rfl)
    rw [HIN.out] at n10
    have n18 := (blk_cell HC.out.nd 18).trans (show (ndC n2)[18]? = some (.string n2.verf) from rfl)
    obtain ⟨hq0, hq1⟩ := HQ.out
    cases q0 <;> cases q1
    all_goals
      go_wp2_with fail
      go_ret2
      exact ⟨by rw [← HR.out]; rfl, HC.out.bel⟩
end Go.Proofs.YtlnfadlgjcnngaaGreat.Co
