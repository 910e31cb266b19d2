/- SeglogScripts: the walk. -/
import Derived.Test.YtfiocakhgpdlfaaDoorHl
import Derived.Deep.CutBlock
namespace Go.Proofs.YtfiocakhgpdlfaaDoor.Sg
open Go.RowKit Go.Lib Go.Proofs.YtfiocakhgpdlfaaDoor.Ap Go.Proofs.YtfiocakhgpdlfaaDoorW.PrintWords Go.Proofs.YtfiocakhgpdlfaaDoorW.PrintLast Go.Proofs.YtfiocakhgpdlfaaDoorW.PrintMore
set_option linter.unusedVariables false
set_option linter.unusedSimpArgs false

/-- what is known between two steps: the log, the document's log, the list of records -/
structure SW (B : Nat) (w0 w : World) (gl gd gR S : Nat) (c c' : Cp) (all all' : List Rec) (va : Value) (k : Nat) : Prop where
  on : On2 B w gl gd S c all k
  rl : ∃ VI VU, RRaw B w gR (rlOf S c') VI VU
  recs : RecsD B w va all'
  bel : Below B w0 w
variable {B gl gl' gd gR S : Nat} {w0 w w' : World} {c c' c1 : Cp} {all all' all1 : List Rec} {va : Value} {k k1 : Nat}
theorem SW.step (h : SW B w0 w gl gd gR S c c' all all' va k) (hb : Below w.heap.size w w') : SW B w0 w' gl gd gR S c c' all all' va k := by
  obtain ⟨VI, VU, hr⟩ := h.rl
  exact ⟨h.on.step hb, ⟨VI, VU, hr.step hb⟩, h.recs.step hb, h.bel.trans (hb.mono h.on.lt)⟩
theorem SW.log (h : SW B w0 w gl gd gR S c c' all all' va k) (hf : FrL B w w') (ho : On2 B w' gl' gd S c1 all1 k1) : SW B w0 w' gl' gd gR S c1 c' all1 all' va k1 := by
  obtain ⟨VI, VU, hr⟩ := h.rl
  exact ⟨ho, ⟨VI, VU, hr.frL hf⟩, h.recs.frL hf, h.bel.trans hf.bel⟩
theorem SW.doc (h : SW B w0 w gl gd gR S c c' all all' va k) (hf : FrR B w w') (hr : ∃ VI VU, RRaw B w' gR (rlOf S c1) VI VU) : SW B w0 w' gl gd gR S c c1 all all' va k :=
  ⟨h.on.frR hf, hr, h.recs.frR hf, h.bel.trans hf.bel⟩
theorem SW.app (h : SW B w0 w gl gd gR S c c' all all' va k) {v' : Value} {x : Rec} (ha : App w w' B 59 3 v' (all'.length + 1) (flatR all' ++ [.int .i64 x.seq, .int .i64 x.seg, .string (toB x.body)])) : SW B w0 w' gl gd gR S c c' all (all' ++ [x]) v' k := by
  obtain ⟨d, l, h1, h2, h3, h4⟩ := h.on.ex
  obtain ⟨vS, hl⟩ := h2.log
  obtain ⟨VI, VU, hr⟩ := h.rl
  exact ⟨⟨d, l, h1, ⟨⟨_, ha.keep _ _ _ _ (by decide) hl.blk, own_keep hl.segs (fun k cs f hr => ha.keep _ _ _ _ (by decide) hr), hl.ge⟩, h2.dk.keepT ha.keep (by decide) (by decide) (by decide), h2.inv, h2.len, h2.bnd⟩, h3, h4⟩,
    ⟨VI, VU, ha.keep _ _ _ _ (by decide) hr.blk, own_keep hr.ids (fun k cs f hr => ha.keep _ _ _ _ (by decide) hr), own_keep hr.used (fun k cs f hr => ha.keep _ _ _ _ (by decide) hr), hr.ge, hr.apart⟩, App.recsD ha, h.bel.trans ha.bel⟩
theorem SW.few (h : SW B w0 w gl gd gR S c c' all all' va k) : all.length ≤ 2000 := by
  obtain ⟨d, l, h1, h2, h3, h4⟩ := h.on.ex
  exact h2.inv.c.few
theorem SW.withR (h : SW B w0 w gl gd gR S c c' all all' va k) {v' : Value} {l : List Rec} (hr : RecsD B w v' l) : SW B w0 w gl gd gR S c c' all l v' k := ⟨h.on, h.rl, hr, h.bel⟩
/-- the document's log's boot is counted -/
theorem SW.boot {VI VU : Value} (h : SW B w0 w gl gd gR S c c' all all' va k) (hr : RRaw B w gR (rlOf S c') VI VU)
    (hw : w'.heap[gR]? = some (.cells #[.int .i64 S, VI, VU, .int .i64 c'.seq, .int .i64 ((c'.boot : Int) + 1), .int .i64 0] 57 (0, 0))) (hg : w.grownBy w' (some gR)) : SW B w0 w' gl gd gR S c (booted c') all all' va k := by
  have hk := types_blk hr.blk hg
  refine h.doc (FrR.blk hr.blk hg hr.ge (.inr rfl)) ⟨VI, VU, ?_, own_keep hr.ids (fun k cs f hr => hk _ _ _ _ (by decide) hr), own_keep hr.used (fun k cs f hr => hk _ _ _ _ (by decide) hr), hr.ge, hr.apart⟩
  exact hw
structure SArgs (w : World) (A1 : Option Addr) (acts : List ActR) : Prop where
  a : kAct.C w A1 acts.length acts
  la : acts.length ≤ 1048576
  ta : ∀ x ∈ acts, x.f2.size ≤ 1048576
theorem cell_keep2 {w w' : World} (hb : Below w.heap.size w w') {a : Addr} {v : Value} (hc : w.cell? a = some v) : w'.cell? a = some v := Lib.Below.cellOf hb hc (Nat.le_refl _)
theorem same_any (B gl gd g S : Nat) (c : Cp) (all : List Rec) (k : Nat) (w : World) (h : On2 B w gl gd S c all k) (hk : k ≤ 2000000) (hr : ∃ VI VU, RRaw B w g (rlOf S c) VI VU) :
    Calls Tryd.prog 26 #[.pointer (some ⟨gl, 0, none⟩), .pointer (some ⟨g, 0, none⟩)] w fun e w' => e = .returned (.bool true) ∧ Below w.heap.size w w' := by
  obtain ⟨VI, VU, hr⟩ := hr
  exact same_calls B gl gd g S c all k VI VU w h hk hr
theorem rappend_s (B g S : Nat) (c : Cp) (k : Nat) (body : List UInt8) (w : World) (hc : CpOk S c k) (hk : k ≤ 2000000) (hl : ∃ VI VU, RRaw B w g (rlOf S c) VI VU) (hle : B ≤ w.heap.size) (hbl : body.length ≤ 10485760) :
    Calls Tryd.prog 23 #[.pointer (some ⟨g, 0, none⟩), .string (toB body)] w fun e w' => e = .returned (.tuple #[.agg #[.int .i64 (appR S c body).seq, .int .i64 (appR S c body).seg, .string (toB (appR S c body).body)], .int .i64 (appE S c body)]) ∧ (∃ VI' VU', RRaw B w' g (rlOf S (appC S c body)) VI' VU') ∧ FrR B w w' := by
  obtain ⟨VI, VU, hl⟩ := hl
  refine (rappend_o B g S c k body VI VU w hc hk hl hle hbl).mono fun e w' hp => ?_
  obtain ⟨h1, a, b, h2, h3⟩ := hp
  exact ⟨h1, ⟨a, b, h2⟩, h3⟩
theorem rdrop_s (B g S : Nat) (c : Cp) (k : Nat) (id : Int) (w : World) (hc : CpOk S c k) (hl : ∃ VI VU, RRaw B w g (rlOf S c) VI VU) (hle : B ≤ w.heap.size) :
    Calls Tryd.prog 24 #[.pointer (some ⟨g, 0, none⟩), .int .i64 id] w fun e w' => e = .returned (.int .i64 (drpE c id)) ∧ (∃ VI' VU', RRaw B w' g (rlOf S (drpC c id)) VI' VU') ∧ FrR B w w' := by
  obtain ⟨VI, VU, hl⟩ := hl
  refine (rdrop_o B g S c k id VI VU w hc hl hle).mono fun e w' hp => ?_
  obtain ⟨h1, a, b, h2, h3⟩ := hp
  exact ⟨h1, ⟨a, b, h2⟩, h3⟩
theorem mk0_segs (sz : Nat) (h1 : 66 ≤ sz) (h2 : sz ≤ 115) : segsN (Dk.mk0 sz).now = (sz - 2) / 16 := by
  unfold segsN Dk.mk0; simp; omega
theorem segsN_of (l : List ByteArray) (sz : Nat) (h1 : 66 ≤ sz) (h2 : sz ≤ 115) (h : l.length = sz) : segsN l = (sz - 2) / 16 := by
  unfold segsN; rw [h]; omega

/-- what is there behind a step that may have failed -/
def nextAll (E : Int) (all new : List Rec) : List Rec := if E = 0 then new else all
theorem nextAll_zero (all new : List Rec) : nextAll 0 all new = new := if_pos rfl
theorem nextAll_bad {E : Int} (h : ¬ E = 0) (all new : List Rec) : nextAll E all new = all := if_neg h
theorem append_g (B gl gd S : Nat) (c c0 : Cp) (all all1 : List Rec) (k : Nat) (body : List UInt8) (R0 : Rec) (E0 : Int) (hR : appR S c body = R0) (hE : appE S c body = E0) (hC : appC S c body = c0) (hA : nextAll E0 all (all ++ [R0]) = all1) (w : World) (h : On2 B w gl gd S c all k) (hk : k ≤ 2000000) (hbl : body.length ≤ 10485760) :
    Calls Tryd.prog 12 #[.pointer (some ⟨gl, 0, none⟩), .string (toB body)] w fun e w' => e = .returned (.tuple #[.agg #[.int .i64 R0.seq, .int .i64 R0.seg, .string (toB R0.body)], .int .i64 E0]) ∧ FrL B w w' ∧ On2 B w' gl gd S c0 all1 (k + 1) := by
  subst hA hR hE hC; exact append_o B gl gd S c all k body w h hk hbl
theorem rappend_g (B g S : Nat) (c c0 : Cp) (k : Nat) (body : List UInt8) (R0 : Rec) (E0 : Int) (hR : appR S c body = R0) (hE : appE S c body = E0) (hC : appC S c body = c0) (w : World) (hc : CpOk S c k) (hk : k ≤ 2000000) (hl : ∃ VI VU, RRaw B w g (rlOf S c) VI VU) (hle : B ≤ w.heap.size) (hbl : body.length ≤ 10485760) :
    Calls Tryd.prog 23 #[.pointer (some ⟨g, 0, none⟩), .string (toB body)] w fun e w' => e = .returned (.tuple #[.agg #[.int .i64 R0.seq, .int .i64 R0.seg, .string (toB R0.body)], .int .i64 E0]) ∧ (∃ VI' VU', RRaw B w' g (rlOf S c0) VI' VU') ∧ FrR B w w' := by
  subst hR hE hC; exact rappend_s B g S c k body w hc hk hl hle hbl
theorem drop_g (B gl gd S : Nat) (c c0 : Cp) (all all1 : List Rec) (k : Nat) (id E0 : Int) (hE : drpE c id = E0) (hC : drpC c id = c0) (hA : nextAll E0 all (withoutI all id) = all1) (w : World) (h : On2 B w gl gd S c all k) (hk : k ≤ 2000000) :
    Calls Tryd.prog 17 #[.pointer (some ⟨gl, 0, none⟩), .int .i64 id] w fun e w' => e = .returned (.int .i64 E0) ∧ FrL B w w' ∧ On2 B w' gl gd S c0 all1 (k + 1) := by
  subst hA hE hC; exact drop_o B gl gd S c all k id w h hk
theorem rdrop_g (B g S : Nat) (c c0 : Cp) (k : Nat) (id E0 : Int) (hE : drpE c id = E0) (hC : drpC c id = c0) (w : World) (hc : CpOk S c k) (hl : ∃ VI VU, RRaw B w g (rlOf S c) VI VU) (hle : B ≤ w.heap.size) :
    Calls Tryd.prog 24 #[.pointer (some ⟨g, 0, none⟩), .int .i64 id] w fun e w' => e = .returned (.int .i64 E0) ∧ (∃ VI' VU', RRaw B w' g (rlOf S c0) VI' VU') ∧ FrR B w w' := by
  subst hE hC; exact rdrop_s B g S c k id w hc hl hle
theorem body_g (W N : Int) (s : ByteArray) (bd : List UInt8) (hb : bodyOf N s.data.toList = bd) (w : World) (hs : s.size ≤ 100000000) :
    Calls Tryd.prog 19 #[.agg #[.int .i64 W, .int .i64 N, .string s]] w fun e w' => e = .returned (.string (toB bd)) ∧ Below w.heap.size w w' := by
  subst hb; exact body_any W N s w hs

set_option maxRecDepth 100000 in
set_option maxHeartbeats 16000000 in
theorem scripts_law (size : Int) (A1 : Option Addr) (c1 : Nat) (acts : List ActR) (w : World) (hA : SArgs w A1 acts) :
    Calls Tryd.prog 5 #[.int .i64 size, .slice A1 acts.length c1] w fun e w' => e = .returned (.bool true) ∧ Below w.heap.size w w' := by
  have HA := Aside0.mk hA
  have HC0 : Aside0 (cp0.serial < top ∧ cp0.boot < top ∧ cp0.seq < top ∧ ([] : List Rec).length ≤ 100000) := ⟨small_top 1 (by omega), small_top 0 (by omega), small_top 0 (by omega), by simp⟩
  obtain ⟨na, hna⟩ : ∃ na, na = acts.length := ⟨_, rfl⟩
  have HNA := Aside0.mk hna
  have hla := hA.la
  rw [← hna]
  have hnaI : (na : Int) ≤ 1048576 := by omega
  have HLA : Aside0 (na ≤ 1048576) := ⟨by omega⟩
  clear hA hna hla
  go_enter Tryd.func5, Tryd.ntmps5
  go_upto_region 4 with (first
    | (go_at_call 8; (with_reducible refine (speaks_calls w).mono ?_); rintro e0 w0 ⟨rfl, hb⟩; have HB0 := Aside0.mk hb; clear hb)
    | (go_at_call 15; (with_reducible refine (disk_calls size w0).mono ?_); rintro e1 w1 ⟨sz, gd, hs1, hs2, rfl, hd, hb⟩; have HSZ := Aside0.mk (And.intro hs1 hs2); have HD1 : Aside0 (DAt w.heap.size w1 gd (Dk.mk0 sz)) := ⟨hd.less HB0.out.size⟩; have HB1 := Aside0.mk (below_step HB0.out hb); clear hd hb))
  have hq : ((sz : Int) - 2).tdiv 16 = (((sz - 2) / 16 : Nat) : Int) := by
    rw [Int.tdiv_eq_ediv_of_nonneg (by omega)]; omega
  have hszI1 : (66 : Int) ≤ (sz : Int) := by omega
  have hszI2 : (sz : Int) ≤ 115 := by omega
  obtain ⟨S, hS⟩ : ∃ S, (sz - 2) / 16 = S := ⟨_, rfl⟩
  rw [hS] at hq
  have HSS : Aside0 (S ≤ 64 ∧ ∀ l : List ByteArray, l.length = sz → segsN l = S) := ⟨by omega, fun l hl => by rw [segsN_of l sz hs1 hs2 hl, hS]⟩
  have hwS : wrap64 (S : Int) = (S : Int) := by unfold wrap64; omega
  clear hs1 hs2 hS
  go_upto_region 5 with (first
    | ((with_reducible refine gate_dst (N := 32) rfl ?_); refine Lb.alloc_event ?hg (v := fun g => .slice (some ⟨g, 0, none⟩) 1 1) (cs := #[.int .i64 0]) (t := 3) (fr := (0, 0)) ?hr ?_; (case hg => rfl); (case hr => first | (go_simp; done) | (go_simp; rfl)); intro g32 hg32 w2 hx hb; have HX2 := Aside0.mk (And.intro hg32 hx); have HB2 := Aside0.mk hb; clear hx hb hg32)
    | ((with_reducible refine gate_dst (N := 33) rfl ?_); refine Lb.alloc_event ?hg (v := fun g => .slice (some ⟨g, 0, none⟩) 1 1) (cs := #[.int .i64 0]) (t := 3) (fr := (0, 0)) ?hr ?_; (case hg => rfl); (case hr => first | (go_simp; done) | (go_simp; rfl)); intro g33 hg33 w3 hx hb; have HX3 := Aside0.mk (And.intro hg33 hx); have HB3 := Aside0.mk hb; clear hx hb hg33)
    | ((with_reducible refine gate_dst (N := 35) rfl ?_); refine Lb.alloc_event ?hg (v := fun g => .pointer (some ⟨g, 0, none⟩)) (cs := #[.int .i64 S, .slice (some ⟨g32, 0, none⟩) 1 1, .slice (some ⟨g33, 0, none⟩) 1 1, .int .i64 0, .int .i64 1, .int .i64 0]) (t := 57) (fr := (0, 0)) ?hr ?_; (case hg => rfl); (case hr => first | (go_simp; done) | (go_simp; rfl)); intro g35 hg35 w4 hx hb; have HX4 := Aside0.mk (And.intro hg35 hx); have HB4 := Aside0.mk hb; clear hx hb hg35))
  have HR4 : Aside0 (RRaw w.heap.size w4 g35 (rlOf S (booted cp0)) (.slice (some ⟨g32, 0, none⟩) 1 1) (.slice (some ⟨g33, 0, none⟩) 1 1)) := ⟨by
    have a1 := HB1.out.size
    have a2 := HB2.out.size
    have a3 := HB3.out.size
    have b2 := HX2.out
    have b3 := HX3.out
    have b4 := HX4.out
    have l2 := blk_lt b2.2
    refine ⟨b4.2, ⟨rfl, .inr ⟨g32, 1, _, rfl, by omega, Lb.blk_below (Lb.blk_below b2.2 HB3.out) HB4.out, Nat.le_refl _, by decide, rfl, rfl⟩⟩, ⟨rfl, .inr ⟨g33, 1, _, rfl, by omega, Lb.blk_below b3.2 HB4.out, Nat.le_refl _, by decide, rfl, rfl⟩⟩, by omega, ?_⟩
    intro k h1 h2
    injection h1 with h1
    injection h2 with h2
    have h1' : g32 = k := h1
    have h2' : g33 = k := h2
    omega⟩
  have HD4 : Aside0 (DAt w.heap.size w4 gd (Dk.mk0 sz)) := ⟨((HD1.out.step HB2.out).step HB3.out).step HB4.out⟩
  have HB5 := Aside0.mk (below_step (below_step (below_step HB1.out HB2.out) HB3.out) HB4.out)
  go_wp2_with (first
    | (go_at_call 10; (with_reducible refine (format_onS w.heap.size gd sz w4 HSZ.out.1 HD4.out).mono ?_); rintro e2 w5 ⟨d2, rfl, hd, hf, h1, h2, h3, h4⟩; have HD5 := Aside0.mk hd; have HR5 := Aside0.mk (HR4.out.frL hf.toL); have HP2 := Aside0.mk (And.intro h1 (And.intro h2 (And.intro h3 h4))); replace HB5 := Aside0.mk (HB5.out.trans hf.bel); clear hd hf h1 h2 h3 h4)
    | (go_at_call 11; (with_reducible refine (open_on w.heap.size gd d2 cp0 0 [] w5 HD5.out HP2.out.1 HP2.out.2.1 HP2.out.2.2.2 HC0.out.1 HC0.out.2.1 HC0.out.2.2.1 HC0.out.2.2.2).mono ?_); rintro e3 w6 ⟨d3, gl, v3, rfl, hd, hl, hr, hf, hi, hl0, hln⟩; have HK : Aside0 (SW w.heap.size w w6 gl gd g35 S (booted cp0) (booted cp0) [] [] (.slice none 0 0) 0) := ⟨⟨⟨d3, _, rfl, ⟨hl, hd, hi, by rw [hln, HP2.out.2.2.1]; have := HSZ.out; omega, Nat.le_refl _, Nat.le_refl _, Nat.le_refl _⟩, hl0, HSS.out.2 _ (by rw [hln, HP2.out.2.2.1])⟩, ⟨_, _, HR5.out.frL hf⟩, ⟨rfl, .inl ⟨rfl, rfl⟩⟩, HB5.out.trans hf.bel⟩⟩; obtain ⟨A3, c3, rfl, -⟩ := own_slice hr; clear hd hl hr hf hi hl0 hln))
  go_loopg [8, 10, 11, 12] na (fun gk s8 s10 s11 s12 wr => ∃ (i gl : Nat) (va : Value) (c : Cp) (all : List Rec), i + gk = na ∧ s12 = .int .i64 i ∧ s10 = .int .i64 0 ∧ s8 = .pointer (some ⟨gl, 0, none⟩) ∧ va = s11 ∧ Aside0 (SW w.heap.size w wr gl gd g35 S c c all all va i))
  case atStart => exact ⟨0, gl, .slice none 0 0, booted cp0, [], by omega, rfl, rfl, rfl, rfl, HK⟩
  case round =>
    clear HK
    obtain ⟨i, gl, va, c, all, hi, rfl, rfl, rfl, rfl, HK⟩ := hrel
    have HI := Aside0.mk hi
    have HKI : Aside0 (i ≤ 2000000) := ⟨by have := HLA.out; omega⟩
    cases gk with
    | zero =>
      obtain rfl : i = na := by omega
      have hii : ¬ ((i : Int) < (i : Int)) := by omega
      go_wp2_with (first
        | (go_at_call 26; (with_reducible refine (same_any w.heap.size gl gd g35 S c all i _ HK.out.on HKI.out HK.out.rl).mono ?_); rintro e9 w9 ⟨rfl, hb⟩; replace HK := Aside0.mk (HK.out.step hb); clear hb))
      go_ret
      exact ⟨rfl, HK.out.bel⟩
    | succ gko =>
      have hii : (i : Int) < (na : Int) := by omega
      have hi0 : i < acts.length := by have := HNA.out; omega
      obtain ⟨⟨f0, f1, f2⟩, hx⟩ : ∃ x, acts[i]? = some x := ⟨_, List.getElem?_eq_getElem hi0⟩
      obtain ⟨ad, rfl, x0, x1, x2⟩ := at_act HA.out.a i _ hi0 hx
      have y0 := cell_keep2 HK.out.bel x0
      have y1 := cell_keep2 HK.out.bel x1
      have y2 := cell_keep2 HK.out.bel x2
      simp only at y0 y1 y2
      have HF2 : Aside0 (f2.size ≤ 1048576) := ⟨HA.out.ta _ (List.mem_of_getElem? hx)⟩
      clear x0 x1 x2 hx hi0 hi
      obtain ⟨t, ht⟩ : ∃ t, f0.tmod 6 = t := ⟨_, rfl⟩
      have ht1 : -5 ≤ t ∧ t ≤ 5 := by rw [← ht]; have h1 := Int.tmod_lt_of_pos f0 (show (0 : Int) < 6 by omega); have h2 := Int.lt_tmod_of_pos f0 (show (0 : Int) < 6 by omega); omega
      obtain ⟨ht2, ht3⟩ := ht1
      go_upto_region 13 with (first
        | ((with_reducible refine gate_dst (N := 13) rfl ?_); refine Lb.alloc_event ?hg (v := fun g => .pointer (some ⟨g, 0, none⟩)) (cs := #[.int .i64 0, .int .i64 0, .string ⟨#[]⟩]) (t := 45) (fr := (0, 0)) ?hr ?_; (case hg => rfl); (case hr => first | (go_simp; done) | (go_simp; rfl)); intro g13 hg13 wa hx hb; have HX := Aside0.mk hx; have HBa := Aside0.mk hb; have HG13 := Aside0.mk hg13; clear hx hb hg13)
        | ((with_reducible refine gate_store (t := 45) (p := 13) rfl ?_); refine Lb.store_whole rfl rfl 45 (.tmp 13) (.tmp 58) rfl (new := #[.int .i64 f0, .int .i64 f1, .string f2]) rfl rfl HX.out rfl (by kernel_rfl) (by simp [Value.oneCell']) ?_; intro wb hb hg; have HX13 := Aside0.mk hb; replace HK := Aside0.mk (HK.out.step (Lb.grown_below HBa.out hg HBa.out.size (by have := HG13.out; omega))); clear hb hg y0 y1 y2))
      have z0 : wb.cell? ⟨g13, 0, none⟩ = some (.int .i64 f0) := (blk_cell HX13.out 0).trans rfl
      have z1 : wb.cell? ⟨g13, 1, none⟩ = some (.int .i64 f1) := (blk_cell HX13.out 1).trans rfl
      have z2 : wb.cell? ⟨g13, 2, none⟩ = some (.string f2) := (blk_cell HX13.out 2).trans rfl
      go_upto_block 2 with fail
      have ht6 : (t + 6) % 6 = t % 6 := by omega
      rw [ht6]
      clear ht6
      obtain ⟨r, hr⟩ : ∃ r, t % 6 = r := ⟨_, rfl⟩
      rw [hr]
      have hr1 : 0 ≤ r ∧ r ≤ 5 := by omega
      clear hr ht2 ht3
      have HOK : Aside0 (CpOk S c i) := ⟨HK.out.on.ok HKI.out⟩
      go_cut [8, 10, 11] (fun s8 s10 s11 wx => ∃ (gl' : Nat) (va' : Value) (c' : Cp) (all' : List Rec), s8 = .pointer (some ⟨gl', 0, none⟩) ∧ s10 = .int .i64 0 ∧ va' = s11 ∧ Aside0 (SW w.heap.size w wx gl' gd g35 S c' c' all' all' va' (i + 1)))
      case first =>
        refine wp_block ?_
        refine wp_seq_k ?_
        intro KT hKT
        go_cut [85] (fun s85 wx => wb = wx ∧ s85 = .bool (decide (r ≤ 3)))
        case first =>
          have h6 : r = 0 ∨ r = 1 ∨ r = 2 ∨ r = 3 ∨ r = 4 ∨ r = 5 := by omega
          clear hr1
          rcases h6 with rfl | rfl | rfl | rfl | rfl | rfl
          all_goals
            go_wp2_with fail
            go_meet
            exact ⟨rfl, by simp⟩
        case rest =>
          obtain ⟨rfl, rfl⟩ := hcut
          by_cases h3 : r ≤ 3
          · have h3d : decide (r ≤ 3) = true := decide_eq_true h3
            have HBS : Aside0 (f2.size ≤ 100000000) := ⟨by have := HF2.out; omega⟩
            have HBL : Aside0 ((bodyOf f1 f2.data.toList).length ≤ 10485760) := ⟨by have h := bodyOf_len f1 f2.data.toList; have e : f2.data.toList.length = f2.size := rfl; have := HF2.out; omega⟩
            obtain ⟨bd, hbd⟩ : ∃ bd, bodyOf f1 f2.data.toList = bd := ⟨_, rfl⟩
            have HBD := Aside0.mk hbd
            rw [hbd] at HBL
            obtain ⟨⟨rs, rg, rb⟩, hR⟩ : ∃ R0, appR S c bd = R0 := ⟨_, rfl⟩
            obtain ⟨E0, hE⟩ : ∃ E0, appE S c bd = E0 := ⟨_, rfl⟩
            obtain ⟨C0, hC⟩ : ∃ C0, appC S c bd = C0 := ⟨_, rfl⟩
            obtain ⟨all1, hA1⟩ : ∃ all1, nextAll E0 all (all ++ [(⟨rs, rg, rb⟩ : Rec)]) = all1 := ⟨_, rfl⟩
            have HR := Aside0.mk hR
            have HE := Aside0.mk hE
            have HC := Aside0.mk hC
            have HA1 := Aside0.mk hA1
            have HFEW := Aside0.mk HK.out.few
            clear hbd hR hE hC hA1
            by_cases hz : E0 = 0
            · subst hz
              have HA2 : Aside0 (all ++ [(⟨rs, rg, rb⟩ : Rec)] = all1) := ⟨by have h := HA1.out; rw [nextAll_zero] at h; exact h⟩
              go_wp2_with (first
                | (go_at_call 19; (with_reducible refine (body_g f0 f1 f2 bd HBD.out _ HBS.out).mono ?_); rintro e4 w4 ⟨rfl, hb⟩; replace HK := Aside0.mk (HK.out.step hb); replace HX13 := Aside0.mk (Lb.blk_below HX13.out hb); (try replace HX14 := Aside0.mk (Lb.blk_below HX14.out hb)); clear hb z0 z1 z2)
                | (go_at_call 12; (with_reducible refine (append_g w.heap.size gl gd S c C0 all all1 i bd ⟨rs, rg, rb⟩ 0 HR.out HE.out HC.out HA1.out _ HK.out.on HKI.out HBL.out).mono ?_); rintro e5 w5 ⟨rfl, hf, ho⟩; replace HK := Aside0.mk (HK.out.log hf ho); replace HX13 := Aside0.mk (hf.frm _ _ _ _ HX13.out (by decide) (by decide) (by decide) (by decide) (by decide)); clear hf ho)
                | ((with_reducible refine gate_dst (N := 14) rfl ?_); refine Lb.alloc_event ?hg (v := fun g => .pointer (some ⟨g, 0, none⟩)) (cs := #[.int .i64 0, .int .i64 0, .string ⟨#[]⟩]) (t := 34) (fr := (0, 0)) ?hr ?_; (case hg => rfl); (case hr => first | (go_simp; done) | (go_simp; rfl)); intro g14 hg14 w6 hx hb; have HX14 := Aside0.mk hx; have HB14 := Aside0.mk hb; have HG14 := Aside0.mk hg14; clear hx hb hg14)
                | ((with_reducible refine gate_store (t := 34) (p := 14) rfl ?_); refine Lb.store_whole rfl rfl 34 (.tmp 14) (.tmp 95) rfl (new := #[.int .i64 rs, .int .i64 rg, .string (toB rb)]) rfl rfl HX14.out rfl (by kernel_rfl) (by simp [Value.oneCell']) ?_; intro w7 hb hg; have HBT := Aside0.mk (Lb.grown_below HB14.out hg HB14.out.size (by have := HG14.out; omega)); replace HK := Aside0.mk (HK.out.step HBT.out); replace HX13 := Aside0.mk (Lb.blk_below HX13.out HBT.out); replace HX14 := Aside0.mk hb; have z0 := (blk_cell HX13.out 0).trans rfl; have z1 := (blk_cell HX13.out 1).trans rfl; have z2 := (blk_cell HX13.out 2).trans rfl; clear hb hg HBT HB14 HG14)
                | (go_at_call 23; (with_reducible refine (rappend_g w.heap.size g35 S c C0 i bd ⟨rs, rg, rb⟩ 0 HR.out HE.out HC.out _ HOK.out HKI.out HK.out.rl HK.out.on.lt HBL.out).mono ?_); rintro e8 w8 ⟨rfl, hrl, hf⟩; replace HK := Aside0.mk (HK.out.doc hf hrl); replace HX14 := Aside0.mk (hf.frm _ _ _ _ HX14.out (by decide) (by decide)); clear hf hrl)
                | ((with_reducible refine gate_dst (N := 16) rfl ?_); refine Lb.alloc_event ?hg (v := fun g => .pointer (some ⟨g, 0, none⟩)) (cs := #[.int .i64 0, .int .i64 0, .string ⟨#[]⟩]) (t := 59) (fr := (0, 0)) ?hr ?_; (case hg => rfl); (case hr => first | (go_simp; done) | (go_simp; rfl)); intro g16 hg16 w9 hx hb; have HX16 := Aside0.mk hx; have HB16 := Aside0.mk hb; have HG16 := Aside0.mk hg16; clear hx hb hg16)
                | ((with_reducible refine gate_store (t := 59) (p := 16) rfl ?_); refine Lb.store_whole rfl rfl 59 (.tmp 16) (.tmp 102) rfl (new := #[.int .i64 rs, .int .i64 rg, .string (toB rb)]) rfl rfl HX16.out rfl (by kernel_rfl) (by simp [Value.oneCell']) ?_; intro w10 hb hg; have HBT := Aside0.mk (Lb.grown_below HB16.out hg HB16.out.size (by have := HG16.out; omega)); replace HK := Aside0.mk (HK.out.step HBT.out); replace HX14 := Aside0.mk (Lb.blk_below HX14.out HBT.out); replace HX16 := Aside0.mk hb; have v0 := (blk_cell HX14.out 0).trans rfl; have v1 := (blk_cell HX14.out 1).trans rfl; have v2 := (blk_cell HX14.out 2).trans rfl; have y0 := (blk_cell HX16.out 0).trans rfl; have y1 := (blk_cell HX16.out 1).trans rfl; have y2 := (blk_cell HX16.out 2).trans rfl; clear hb hg HBT HB16 HG16)
                | ((with_reducible refine gate_dst (N := 116) rfl ?_); refine Lb.alloc_event ?hg (v := fun g => .slice (some ⟨g, 0, none⟩) 1 1) (cs := #[.int .i64 rs, .int .i64 rg, .string (toB rb)]) (t := 59) (fr := (0, 0)) ?hr ?_; (case hg => rfl); (case hr => first | (go_simp; done) | (go_simp; rfl)); intro g3 hg3 w11 hx hb; have HNB : Aside0 (NewBlk w10 w11 g3 #[.int .i64 rs, .int .i64 rg, .string (toB rb)] 59) := ⟨⟨hx, hb⟩⟩; clear hx hb hg3 v0 v1 v2 y0 y1 y2)
                | (at_builtin; refine app_event (w0 := w10) rfl (.tmp 114) (.tmp 116) 58 59 _ 3 32 rfl Tryd.underlying58 recD_info rfl (by decide) (by decide) (B := w.heap.size) (n := _) (m := 1) (v := _) (xs := _) (news := [.int .i64 rs, .int .i64 rg, .string (toB rb)]) rfl HK.out.recs HNB.out rfl rfl (by simp [Value.oneCell']) HK.out.on.lt (by have := HFEW.out; omega) ?_; intro v' w12 ha; have HA9 := Aside0.mk ha; clear ha))
              go_meet
              exact ⟨gl, v', C0, all1, rfl, rfl, rfl, ⟨by have h := HK.out.app (x := ⟨rs, rg, rb⟩) HA9.out; rw [HA2.out] at h; exact h⟩⟩
            · have hzb : (E0 == 0) = false := by simpa using hz
              have HA2 : Aside0 (all = all1) := ⟨by have h := HA1.out; rw [nextAll_bad hz] at h; exact h⟩
              go_wp2_with (first
                | (go_at_call 19; (with_reducible refine (body_g f0 f1 f2 bd HBD.out _ HBS.out).mono ?_); rintro e4 w4 ⟨rfl, hb⟩; replace HK := Aside0.mk (HK.out.step hb); replace HX13 := Aside0.mk (Lb.blk_below HX13.out hb); (try replace HX14 := Aside0.mk (Lb.blk_below HX14.out hb)); clear hb z0 z1 z2)
                | (go_at_call 12; (with_reducible refine (append_g w.heap.size gl gd S c C0 all all1 i bd ⟨rs, rg, rb⟩ E0 HR.out HE.out HC.out HA1.out _ HK.out.on HKI.out HBL.out).mono ?_); rintro e5 w5 ⟨rfl, hf, ho⟩; replace HK := Aside0.mk (HK.out.log hf ho); replace HX13 := Aside0.mk (hf.frm _ _ _ _ HX13.out (by decide) (by decide) (by decide) (by decide) (by decide)); clear hf ho)
                | ((with_reducible refine gate_dst (N := 14) rfl ?_); refine Lb.alloc_event ?hg (v := fun g => .pointer (some ⟨g, 0, none⟩)) (cs := #[.int .i64 0, .int .i64 0, .string ⟨#[]⟩]) (t := 34) (fr := (0, 0)) ?hr ?_; (case hg => rfl); (case hr => first | (go_simp; done) | (go_simp; rfl)); intro g14 hg14 w6 hx hb; have HX14 := Aside0.mk hx; have HB14 := Aside0.mk hb; have HG14 := Aside0.mk hg14; clear hx hb hg14)
                | ((with_reducible refine gate_store (t := 34) (p := 14) rfl ?_); refine Lb.store_whole rfl rfl 34 (.tmp 14) (.tmp 95) rfl (new := #[.int .i64 rs, .int .i64 rg, .string (toB rb)]) rfl rfl HX14.out rfl (by kernel_rfl) (by simp [Value.oneCell']) ?_; intro w7 hb hg; have HBT := Aside0.mk (Lb.grown_below HB14.out hg HB14.out.size (by have := HG14.out; omega)); replace HK := Aside0.mk (HK.out.step HBT.out); replace HX13 := Aside0.mk (Lb.blk_below HX13.out HBT.out); replace HX14 := Aside0.mk hb; have z0 := (blk_cell HX13.out 0).trans rfl; have z1 := (blk_cell HX13.out 1).trans rfl; have z2 := (blk_cell HX13.out 2).trans rfl; clear hb hg HBT HB14 HG14)
                | (go_at_call 23; (with_reducible refine (rappend_g w.heap.size g35 S c C0 i bd ⟨rs, rg, rb⟩ E0 HR.out HE.out HC.out _ HOK.out HKI.out HK.out.rl HK.out.on.lt HBL.out).mono ?_); rintro e8 w8 ⟨rfl, hrl, hf⟩; replace HK := Aside0.mk (HK.out.doc hf hrl); replace HX14 := Aside0.mk (hf.frm _ _ _ _ HX14.out (by decide) (by decide)); clear hf hrl)
                | ((with_reducible refine gate_dst (N := 16) rfl ?_); refine Lb.alloc_event ?hg (v := fun g => .pointer (some ⟨g, 0, none⟩)) (cs := #[.int .i64 0, .int .i64 0, .string ⟨#[]⟩]) (t := 59) (fr := (0, 0)) ?hr ?_; (case hg => rfl); (case hr => first | (go_simp; done) | (go_simp; rfl)); intro g16 hg16 w9 hx hb; have HX16 := Aside0.mk hx; have HB16 := Aside0.mk hb; have HG16 := Aside0.mk hg16; clear hx hb hg16)
                | ((with_reducible refine gate_store (t := 59) (p := 16) rfl ?_); refine Lb.store_whole rfl rfl 59 (.tmp 16) (.tmp 102) rfl (new := #[.int .i64 rs, .int .i64 rg, .string (toB rb)]) rfl rfl HX16.out rfl (by kernel_rfl) (by simp [Value.oneCell']) ?_; intro w10 hb hg; have HBT := Aside0.mk (Lb.grown_below HB16.out hg HB16.out.size (by have := HG16.out; omega)); replace HK := Aside0.mk (HK.out.step HBT.out); replace HX14 := Aside0.mk (Lb.blk_below HX14.out HBT.out); replace HX16 := Aside0.mk hb; have v0 := (blk_cell HX14.out 0).trans rfl; have v1 := (blk_cell HX14.out 1).trans rfl; have v2 := (blk_cell HX14.out 2).trans rfl; have y0 := (blk_cell HX16.out 0).trans rfl; have y1 := (blk_cell HX16.out 1).trans rfl; have y2 := (blk_cell HX16.out 2).trans rfl; clear hb hg HBT HB16 HG16))
              go_meet
              exact ⟨gl, va, C0, all1, rfl, rfl, rfl, ⟨by have h := HK.out; rw [HA2.out] at h; exact h⟩⟩
          · have h3d : decide (r ≤ 3) = false := decide_eq_false h3
            by_cases h4 : r = 4
            · subst h4
              obtain ⟨E0, hE⟩ : ∃ E0, drpE c f1 = E0 := ⟨_, rfl⟩
              obtain ⟨C0, hC⟩ : ∃ C0, drpC c f1 = C0 := ⟨_, rfl⟩
              obtain ⟨all1, hA1⟩ : ∃ all1, nextAll E0 all (withoutI all f1) = all1 := ⟨_, rfl⟩
              have HE := Aside0.mk hE
              have HC := Aside0.mk hC
              have HA1 := Aside0.mk hA1
              have HFEW := Aside0.mk HK.out.few
              obtain ⟨Aa, ca, rfl, -⟩ := own_slice HK.out.recs
              obtain ⟨nal, hnal⟩ : ∃ nal, nal = all.length := ⟨_, rfl⟩
              rw [← hnal]
              have HNAL := Aside0.mk hnal
              have HK0 : Aside0 (SW w.heap.size w wb gl gd g35 S c c all all (.slice Aa nal ca) i) := ⟨by rw [hnal]; exact HK.out⟩
              clear HK
              have HK := HK0
              clear HK0
              have hnalI : (nal : Int) ≤ 2000 := by have := HFEW.out; omega
              clear hE hC hA1 hnal h3 hr1 h3d
              go_upto_region 33 with (first
                | (go_at_call 17; (with_reducible refine (drop_g w.heap.size gl gd S c C0 all all1 i f1 E0 HE.out HC.out HA1.out _ HK.out.on HKI.out).mono ?_); rintro e5 w5 ⟨rfl, hf, ho⟩; replace HK := Aside0.mk (HK.out.log hf ho); replace HX13 := Aside0.mk (hf.frm _ _ _ _ HX13.out (by decide) (by decide) (by decide) (by decide) (by decide)); clear hf ho z0 z1 z2; have z1 := (blk_cell HX13.out 1).trans rfl)
                | (go_at_call 24; (with_reducible refine (rdrop_g w.heap.size g35 S c C0 i f1 E0 HE.out HC.out _ HOK.out HK.out.rl HK.out.on.lt).mono ?_); rintro e8 w8 ⟨rfl, hrl, hf⟩; replace HK := Aside0.mk (HK.out.doc hf hrl); replace HX13 := Aside0.mk (hf.frm _ _ _ _ HX13.out (by decide) (by decide)); clear hf hrl z1; have z1 := (blk_cell HX13.out 1).trans rfl))
              by_cases hz : E0 = 0
              · subst hz
                have HA2 : Aside0 (withoutI all f1 = all1) := ⟨by have h := HA1.out; rw [nextAll_zero] at h; exact h⟩
                go_wp2_with fail
                go_loopg [19, 20] nal (fun gk s19 s20 wr => ∃ (j : Nat) (v : Value), j + gk = nal ∧ s20 = .int .i64 j ∧ v = s19 ∧ Aside0 (Below w8.heap.size w8 wr) ∧ Aside0 (RecsD w8.heap.size wr v (withoutI (all.take j) f1)) ∧ Aside0 ((withoutI (all.take j) f1).length ≤ j))
                case atStart => exact ⟨0, .slice none 0 0, by omega, rfl, rfl, ⟨Below.refl _ _⟩, ⟨⟨rfl, .inl ⟨rfl, rfl⟩⟩⟩, ⟨by simp [withoutI]⟩⟩
                case round =>
                  obtain ⟨j, v, hj, rfl, rfl, HBL, HRL, HLL⟩ := hrel
                  cases gk with
                  | zero =>
                    obtain rfl : j = nal := by omega
                    have hjj : ¬ ((j : Int) < (j : Int)) := by omega
                    have HT : Aside0 (all.take j = all) := ⟨List.take_of_length_le (by have := HNAL.out; omega)⟩
                    have HZ : Aside0 (SW w.heap.size w wr gl gd g35 S C0 C0 all1 all1 v (i + 1)) := ⟨by
                      have h := (HK.out.step HBL.out).withR (own_lower HRL.out HK.out.on.lt)
                      rw [HT.out, HA2.out] at h
                      exact h⟩
                    clear z1
                    go_wp2_with fail
                    go_meet
                    exact ⟨gl, v, C0, all1, rfl, rfl, rfl, HZ⟩
                  | succ gk =>
                    have hjj : (j : Int) < (nal : Int) := by omega
                    have hlt : j < all.length := by have := HNAL.out; omega
                    obtain ⟨⟨xs, xg, xb⟩, hx⟩ : ∃ x, all[j]? = some x := ⟨_, List.getElem?_eq_getElem hlt⟩
                    obtain ⟨k, c3, hA, _, p0, p1, p2⟩ := (RecsD.step HK.out.recs HBL.out).at j _ hx
                    injection hA with hAA hA2 hA3
                    subst hAA
                    simp only at p0 p1 p2
                    have z3 := (blk_cell (Lb.blk_below HX13.out HBL.out) 1).trans rfl
                    have hst := withoutI_take all f1 j _ hx
                    simp only at hst
                    have HJ := Aside0.mk hj
                    have HXX := Aside0.mk hx
                    have HLN : Aside0 ((withoutI (all.take j) f1).length + 1 ≤ 1000000000) := ⟨by have := HLL.out; have := HFEW.out; have := HNAL.out; omega⟩
                    clear hj hx hlt hA2 hA3 z1
                    by_cases hg : (xg : Int) = f1
                    · rw [if_pos hg] at hst
                      have HST := Aside0.mk hst
                      have hg2 : ((xg : Int) == f1) = true := by simpa using hg
                      have hg3 : ((xg : Int) != f1) = false := by simpa using hg
                      clear hst
                      go_wp2_with fail
                      go_quiet (fail)
                      go_wp2_with fail
                      go_roundg gk
                      case measure => omega
                      case rel => exact ⟨j + 1, v, by have := HJ.out; omega, by go_num, rfl, ⟨below_step HBL.out (bel_drewN _ _)⟩, ⟨by rw [HST.out]; exact RecsD.step HRL.out (bel_drewN _ _)⟩, ⟨by rw [HST.out]; have := HLL.out; omega⟩⟩
                    · rw [if_neg hg] at hst
                      have HST := Aside0.mk hst
                      have hg2 : ((xg : Int) == f1) = false := by simpa using hg
                      have hg3 : ((xg : Int) != f1) = true := by simpa using hg
                      clear hst
                      go_wp2_with fail
                      go_quiet (fail)
                      have HB2 := Aside0.mk (below_step HBL.out (bel_drewN _ nq))
                      have HR2 := Aside0.mk (RecsD.step HRL.out (bel_drewN _ nq))
                      generalize wr.drewN nq = wr2 at HB2 HR2 ⊢
                      obtain ⟨k', c3', hA', _, q0, q1, q2⟩ := (RecsD.step HK.out.recs HB2.out).at j ⟨xs, xg, xb⟩ HXX.out
                      go_wp2_with (first
                        | ((with_reducible refine gate_dst (N := 151) rfl ?_); refine Lb.alloc_event ?hg (v := fun g => .slice (some ⟨g, 0, none⟩) 1 1) (cs := #[.int .i64 xs, .int .i64 xg, .string (toB xb)]) (t := 59) (fr := (0, 0)) ?hr ?_; (case hg => rfl); (case hr => first | (go_simp; done) | (go_simp; rfl)); intro g3 hg3 w9 hx hb; have HNB : Aside0 (NewBlk wr2 w9 g3 #[.int .i64 xs, .int .i64 xg, .string (toB xb)] 59) := ⟨⟨hx, hb⟩⟩; clear hx hb hg3)
                        | (at_builtin; refine app_event (w0 := wr2) rfl (.tmp 146) (.tmp 151) 58 59 _ 3 32 rfl Tryd.underlying58 recD_info rfl (by decide) (by decide) (B := w8.heap.size) (n := _) (m := 1) (v := _) (xs := _) (news := [.int .i64 xs, .int .i64 xg, .string (toB xb)]) rfl HR2.out HNB.out rfl rfl (by simp [Value.oneCell']) HB2.out.size HLN.out ?_; intro v' w10 ha; have HA4 := Aside0.mk ha; clear ha))
                      go_roundg gk
                      case measure => omega
                      case rel => exact ⟨j + 1, v', by have := HJ.out; omega, by go_num, rfl, ⟨HB2.out.trans HA4.out.bel⟩, ⟨by rw [HST.out]; exact App.recsD (x := ⟨xs, xg, xb⟩) HA4.out⟩, ⟨by rw [HST.out, List.length_append]; have := HLL.out; simp only [List.length_singleton]; omega⟩⟩
              · have hzb : (E0 == 0) = false := by simpa using hz
                have HA2 : Aside0 (all = all1) := ⟨by have h := HA1.out; rw [nextAll_bad hz] at h; exact h⟩
                clear z1
                go_wp2_with fail
                go_meet
                exact ⟨gl, _, C0, all1, rfl, rfl, rfl, ⟨by have h := HK.out; rw [HA2.out] at h; exact h⟩⟩
            · have h5 : r = 5 := by omega
              subst h5
              clear h3 hr1 h3d h4
              have hbI : (c.boot : Int) ≤ 4000000 := by have := HOK.out.boot; have := HKI.out; omega
              go_wp2_with (first
                | (go_at_call 11; (with_reducible refine (open_o w.heap.size gl gd S c all i _ HK.out.on HKI.out).mono ?_); rintro e5 w5 ⟨gl5, v5, rfl, hf, hr, ho⟩; have HRV := Aside0.mk hr; replace HK := Aside0.mk (HK.out.log hf ho); obtain ⟨VI, VU, hrl⟩ := HK.out.rl; have HRL := Aside0.mk hrl; have y4 : w5.cell? ⟨g35, 4, none⟩ = some (.int .i64 c.boot) := (blk_cell hrl.blk 4).trans rfl; clear hf ho hr hrl z0 z1 z2)
                | ((with_reducible refine gate_store (t := 3) (p := 76) rfl ?_); refine Lb.store_one rfl rfl 3 (.tmp 76) (.tmp 74) rfl (g := g35) (off := 4) (u := .int .i64 ((c.boot : Int) + 1)) rfl rfl rfl rfl HRL.out.blk (by kernel_rfl) (show 4 < 6 by decide) ?_; intro w6 hb hg; replace HRV := Aside0.mk (own_keep HRV.out (fun k cs f hr => types_blk HRL.out.blk hg _ _ _ _ (by decide) hr)); replace HK := Aside0.mk (HK.out.boot HRL.out hb hg); clear hb hg HRL y4)
                | (go_at_call 25; (with_reducible refine (records_calls w.heap.size all _ _ _ HRV.out HK.out.recs (by have := HK.out.few; omega)).mono ?_); rintro e7 w7 ⟨rfl, hb⟩; replace HK := Aside0.mk (HK.out.step hb); clear hb))
              go_meet
              exact ⟨gl5, va, booted c, all, rfl, rfl, rfl, HK⟩
      case rest =>
        clear HK HX13 HOK z0 z1 z2
        obtain ⟨gl', va', c', all', rfl, rfl, rfl, HK⟩ := hcut
        have HKJ : Aside0 (i + 1 ≤ 2000000) := ⟨by have := HLA.out; omega⟩
        go_wp2_with (first
          | (go_at_call 26; (with_reducible refine (same_any w.heap.size gl' gd g35 S c' all' (i + 1) _ HK.out.on HKJ.out HK.out.rl).mono ?_); rintro e9 w9 ⟨rfl, hb⟩; replace HK := Aside0.mk (HK.out.step hb); clear hb))
        go_roundg gko
        case measure => omega
        case rel => exact ⟨i + 1, gl', va', c', all', by have := HI.out; omega, by go_num, rfl, rfl, rfl, HK⟩
end Go.Proofs.YtfiocakhgpdlfaaDoor.Sg
