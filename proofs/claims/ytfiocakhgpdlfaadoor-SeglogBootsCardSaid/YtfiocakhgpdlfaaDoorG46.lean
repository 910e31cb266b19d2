/- SeglogFills: the walk. -/
import Derived.Test.YtfiocakhgpdlfaaDoorG45
namespace Go.Proofs.YtfiocakhgpdlfaaDoor.Sg
open Go.RowKit Go.Lib Go.Proofs.YtfiocakhgpdlfaaDoor.Ap Go.Proofs.YtfiocakhgpdlfaaDoorW.PrintWords Go.Proofs.YtfiocakhgpdlfaaDoorW.PrintLast Go.Proofs.YtfiocakhgpdlfaaDoorW.PrintMore
set_option linter.unusedVariables false
set_option linter.unusedSimpArgs false

/-- what is known between two steps of the law -/
structure FS (B : Nat) (w0 w : World) (gl gd q : Nat) (d : Dk) (l : Lg) (x : Sim) : Prop where
  log : LAt B w gl gd l
  dk : DAt B w gd d
  inv : I d l (recs (zeros q) x.2)
  left : d.left = 0
  len : d.now.length = 66
  cp : l.cp = x.1
  bel : Below B w0 w
theorem FS.step {B : Nat} {w0 w w' : World} {gl gd q : Nat} {d : Dk} {l : Lg} {x : Sim} (h : FS B w0 w gl gd q d l x) (hb : Below w.heap.size w w') : FS B w0 w' gl gd q d l x :=
  ⟨h.log.step hb, h.dk.step hb, h.inv, h.left, h.len, h.cp, h.bel.trans (hb.mono h.dk.lt)⟩
theorem FS.put {B : Nat} {w0 w w' : World} {gl gd q : Nat} {d d' : Dk} {l l' : Lg} {x y : Sim} (h : FS B w0 w gl gd q d l x) (hd : DAt B w' gd d') (hl : LAt B w' gl gd l') (hf : FrL B w w') (hi : I d' l' (recs (zeros q) y.2)) (h1 : d'.left = 0) (h2 : d'.now.length = 66) (h3 : l'.cp = y.1) : FS B w0 w' gl gd q d' l' y :=
  ⟨hl, hd, hi, h1, h2, h3, h.bel.trans hf.bel⟩
theorem append_fs (B gl gd q p : Nat) {d : Dk} {l : Lg} (x y : Sim) (j : Nat) {w0 w : World} (h : FS B w0 w gl gd q d l x) (hq : q = 233 * p) (hfine : fineC x.1 j = true) (hj : j ≤ 1000) (hp : 1 ≤ p ∧ p ≤ 16)
    (hst : ∃ c o, cpForN 4 x.1 p = some (c, o) ∧ y = (setLast c ((lastSeg c).used + p) (c.seq + 1), x.2 ++ [(c.seq, (lastSeg c).id)])) :
    Calls Tryd.prog 12 #[.pointer (some ⟨gl, 0, none⟩), .string (toB (zeros q))] w fun e w' => ∃ d' l' a b, e = .returned (.tuple #[.agg #[.int .i64 a, .int .i64 b, .string (toB (zeros q))], .int .i64 0]) ∧ FS B w0 w' gl gd q d' l' y :=
  (append_sim B gl gd d l p q hq x y j w h.log h.dk h.len h.inv h.left h.cp hfine hj hp.1 hp.2 hst).mono fun e w' ⟨d', l', a, b, g1, g2, g3, g4, g5, g6, g7, g8⟩ => ⟨d', l', a, b, g1, h.put g2 g3 g4 g5 g6 g7 g8⟩
theorem none_fs (B gl gd q p : Nat) {d : Dk} {l : Lg} (x : Sim) (j : Nat) {w0 w : World} (h : FS B w0 w gl gd q d l x) (hq : q = 233 * p) (hfine : fineC x.1 j = true) (hj : j ≤ 1000) (hp : 1 ≤ p ∧ p ≤ 16) (hst : cpForN 4 x.1 p = none) :
    Calls Tryd.prog 12 #[.pointer (some ⟨gl, 0, none⟩), .string (toB (zeros q))] w fun e w' => e = .returned (.tuple #[.agg #[.int .i64 0, .int .i64 0, .string ⟨#[]⟩], .int .i64 21]) ∧ FS B w0 w' gl gd q d l x :=
  (append_none B gl gd d l p q hq x j w h.log h.dk h.len h.inv h.cp hfine hj hp.1 hp.2 hst).mono fun e w' ⟨g1, g2, g3, g4⟩ => ⟨g1, g3, g2, h.inv, h.left, h.len, h.cp, h.bel.trans g4.bel⟩
theorem free_fs (B gl gd q : Nat) {d : Dk} {l : Lg} (x : Sim) (n : Nat) (r : Int) {w0 w : World} (h : FS B w0 w gl gd q d l x) (hn : x.1.segs.length = n) (h4 : n ≤ 4) (hr : ((4 - n : Nat) : Int) = r) :
    Calls Tryd.prog 29 #[.pointer (some ⟨gl, 0, none⟩)] w fun e w' => e = .returned (.int .i64 r) ∧ FS B w0 w' gl gd q d l x :=
  (free_any B gl gd d l n r (by rw [h.cp]; exact hn) hr w h.log h.dk h.len h4).mono fun e w' ⟨g1, g2⟩ => ⟨g1, h.step g2⟩
theorem segs_fs (B gl gd q : Nat) {d : Dk} {l : Lg} (x : Sim) {w0 w : World} (h : FS B w0 w gl gd q d l x) (hn : x.1.segs.length = 4) (h0 : x.1.segs.head?.map (·.id) = some 0) :
    Calls Tryd.prog 28 #[.pointer (some ⟨gl, 0, none⟩)] w fun e w' => ∃ k c, e = .returned (.slice (some ⟨k, 0, none⟩) 4 c) ∧ w'.cell? ⟨k, 0, none⟩ = some (.int .i64 0) ∧ FS B w0 w' gl gd q d l x := by
  refine (segments_any B gl gd l 4 (by rw [h.cp]; exact hn) (by omega) (by omega) w h.log).mono fun e w' hp => ?_
  obtain ⟨v', g1, g2, g3⟩ := hp
  have hl : l.cp.segs.length = 4 := by rw [h.cp]; exact hn
  obtain ⟨k, c, rfl, _, q0, _⟩ := g2.at 0 (by omega)
  refine ⟨k, c, by rw [g1, hl], ?_, h.step g3⟩
  have e0 : (l.cp.segs[0]'(by omega)).id = 0 := by
    have h0' := h0
    rw [← h.cp, List.head?_eq_getElem?, List.getElem?_eq_getElem (by omega)] at h0'
    simpa using h0'
  rw [e0] at q0
  exact q0
theorem drop_fs (B gl gd q : Nat) {d : Dk} {l : Lg} (x : Sim) (j : Nat) {w0 w : World} (h : FS B w0 w gl gd q d l x) (hfine : fineC x.1 j = true) (hj : j ≤ 1000) (hix : (x.1.segs.findIdx? fun s => (s.id : Int) == 0) = some 0) (h2 : x.1.segs.length = 4) :
    Calls Tryd.prog 17 #[.pointer (some ⟨gl, 0, none⟩), .int .i64 0] w fun e w' => ∃ d' l', e = .returned (.int .i64 0) ∧ FS B w0 w' gl gd q d' l' (simDrop x) :=
  (drop_sim B gl gd d l (zeros q) x j w h.log h.dk h.inv h.left h.cp hfine hj hix (by omega)).mono fun e w' ⟨d', l', g1, g2, g3, g4, g5, g6, g7, g8⟩ => ⟨d', l', g1, h.put g2 g3 g4 g5 g6 (g7.trans h.len) g8⟩
theorem conv_zeros (q : Nat) (hq : q ≤ 100000) (w : World) : (convert 69 9 (.slice (some ⟨w.heap.size, 0, none⟩) q q)).run Tryd.prog (w.alloc (.cells (madeCells #[.int .u8 0] q) 5)) = .ok (.string (toB (zeros q))) (w.alloc (.cells (madeCells #[.int .u8 0] q) 5)) := by
  have h := run_convert_bytes_back (P := Tryd.prog) (w.alloc (.cells (madeCells #[.int .u8 0] q) 5)) 69 9 5 ⟨w.heap.size, 0, none⟩ q (zeros q) Tryd.underlying69 Tryd.underlying5 Tryd.underlying9 (fun j hj => by
    have e : (⟨w.heap.size, 0, none⟩ : Addr).add j = ⟨w.heap.size, j, none⟩ := by unfold Addr.add; split <;> simp_all
    have hj' : j < q := by simpa [zeros] using hj
    rw [e, blk_cell (blk_new w _) j]
    simp [madeCells, zeros, hj', Nat.mod_one])
  rw [show (zeros q).length = q by simp [zeros]] at h
  exact h
theorem make_zeros (q : Nat) (hq : q ≤ 100000) : ∀ W : World, (Instr.makeSlice 69 (.int .i64 (q : Int)) (.int .i64 (q : Int))).run Tryd.prog W = .ok (.slice (some ⟨W.heap.size, 0, none⟩) q q) (W.alloc (.cells (madeCells #[.int .u8 0] q) 5)) :=
  print_make 69 5 .u8 1 Tryd.underlying69 (by kernel_rfl) (by decide) q (by omega)
theorem open_any (B gd : Nat) (d : Dk) (l : Lg) (all : List Rec) (w : World) (hd : DAt B w gd d) (hi : I d l all) (hleft : d.left = 0) (hs : l.cp.serial < top) (hb : l.cp.boot < top) (hq : l.cp.seq < top) (hall : all.length ≤ 100000) :
    Calls Tryd.prog 11 #[.pointer (some ⟨gd, 0, none⟩)] w fun e w' => ∃ d' gl v, e = .returned (.tuple #[.pointer (some ⟨gl, 0, none⟩), v, .int .i64 0]) ∧ DAt B w' gd d' ∧ LAt B w' gl gd ⟨booted l.cp, 1 - l.place⟩ ∧ RecsAt B w' v all ∧ FrL B w w' ∧ I d' ⟨booted l.cp, 1 - l.place⟩ all ∧ d'.left = 0 ∧ d'.now.length = d.now.length :=
  open_on B gd d l.cp l.place all w hd hi.idle hleft hi.c hs hb hq hall
theorem open_fs (B gl gd q : Nat) (d : Dk) (l : Lg) (x : Sim) (w0 w : World) (j : Nat) (h : FS B w0 w gl gd q d l x) (hfine : fineC x.1 j = true) (hj : j ≤ 1000) (hn : x.2.length ≤ 1000) :
    Calls Tryd.prog 11 #[.pointer (some ⟨gd, 0, none⟩)] w fun e w' => ∃ gl v, e = .returned (.tuple #[.pointer (some ⟨gl, 0, none⟩), v, .int .i64 0]) ∧ RecsAt B w' v (recs (zeros q) x.2) ∧ Below B w0 w' := by
  obtain ⟨f1, f2, f3, f4, f5⟩ := fineC_le hfine
  refine (open_any B gd d l _ w h.dk h.inv h.left (by rw [h.cp]; exact small_top _ (by omega)) (by rw [h.cp, f2]; exact small_top 1 (by omega)) (by rw [h.cp, f3]; exact small_top _ (by omega)) (by simp [recs]; omega)).mono fun e w' hp => ?_
  obtain ⟨d', gl', v, g1, g2, g3, g4, g5, g6, g7, g8⟩ := hp
  exact ⟨gl', v, g1, g4, h.bel.trans g5.bel⟩

set_option maxRecDepth 100000 in
set_option maxHeartbeats 8000000 in
theorem fills_calls (a : Int) (w : World) : Calls Tryd.prog 7 #[.int .i64 a] w fun e w' => e = .returned (.bool true) ∧ Below w.heap.size w w' := by
  have HC0 : Aside0 (cp0.serial < top ∧ cp0.boot < top ∧ cp0.seq < top ∧ ([] : List Rec).length ≤ 100000) := ⟨small_top 1 (by omega), small_top 0 (by omega), small_top 0 (by omega), by simp⟩
  obtain ⟨b, hb⟩ : ∃ b : Bool, b = !decide (1 ≤ a ∧ a ≤ 16) := ⟨_, rfl⟩
  have HBB := Aside0.mk hb
  clear hb
  go_enter Tryd.func7, Tryd.ntmps7
  go_upto_region 3 with (first
    | (go_at_call 8; (with_reducible refine (speaks_calls w).mono ?_); rintro e0 w0 ⟨rfl, hb⟩; have HB0 := Aside0.mk hb; clear hb))
  go_cut [29] (fun s29 wx => w0 = wx ∧ s29 = .bool b)
  case first =>
    by_cases h1 : a < 1
    · go_wp2_with fail
      go_meet
      exact ⟨rfl, by rw [HBB.out, decide_eq_false (by omega)]; rfl⟩
    · by_cases h2 : 16 < a
      · go_wp2_with fail
        go_meet
        exact ⟨rfl, by rw [HBB.out, decide_eq_false (by omega)]; rfl⟩
      · go_wp2_with fail
        go_meet
        exact ⟨rfl, by rw [HBB.out, decide_eq_true (by omega)]; rfl⟩
  case rest =>
    obtain ⟨rfl, rfl⟩ := hcut
    go_upto_if 29 with fail
    go_cut [0] (fun s0 wx => w0 = wx ∧ ∃ p : Nat, 1 ≤ p ∧ p ≤ 16 ∧ s0 = .int .i64 p)
    case first =>
      have hbb := HBB.out
      cases b with
      | true =>
        clear hbb
        go_wp2_with fail
        go_meet
        exact ⟨rfl, 3, by omega, by omega, rfl⟩
      | false =>
        have ha : 1 ≤ a ∧ a ≤ 16 := by
          by_cases h : 1 ≤ a ∧ a ≤ 16
          · exact h
          · rw [decide_eq_false h] at hbb; cases hbb
        clear hbb
        go_wp2_with fail
        go_meet
        exact ⟨rfl, a.toNat, by omega, by omega, by congr 1; omega⟩
    case rest =>
      obtain ⟨rfl, p, hp1, hp2, rfl⟩ := hcut
      obtain ⟨e, he⟩ : ∃ e, e = 16 / p := ⟨_, rfl⟩
      have HF : Aside0 (Fill p e) := ⟨by rw [he]; exact fill_of p hp1 hp2⟩
      have hdiv : (16 : Int) / (p : Int) = (e : Int) := by rw [he]; exact (Int.natCast_ediv 16 p).symm
      have he16 : e ≤ 16 := by rw [he]; exact Nat.div_le_self 16 p
      have he1 : 1 ≤ e := by rw [he]; exact (Nat.one_le_div_iff (by omega)).2 hp2
      obtain ⟨q, hq⟩ : ∃ q, q = 233 * p := ⟨_, rfl⟩
      have hmul : (233 : Int) * (p : Int) = (q : Int) := by omega
      have HQ := Aside0.mk hq
      have HQ9 : Aside0 (q ≤ 100000) := ⟨by omega⟩
      have HP := Aside0.mk (And.intro hp1 hp2)
      have hmk := make_zeros q HQ9.out
      have hpI : (1 : Int) ≤ (p : Int) ∧ (p : Int) ≤ 16 := by omega
      obtain ⟨hpI1, hpI2⟩ := hpI
      clear he hq
      go_upto_region 8 with (first
        | (go_at_call 9; (with_reducible refine (new66 w0).mono ?_); rintro e1 w1 ⟨gd, rfl, hd, hb⟩; have HD1 : Aside0 (DAt w.heap.size w1 gd (Dk.mk0 66)) := ⟨hd.less HB0.out.size⟩; have HB1 := Aside0.mk (below_step HB0.out hb); clear hd hb)
        | (go_at_call 10; (with_reducible refine (format_on w.heap.size gd 66 w1 (by omega) HD1.out).mono ?_); rintro e2 w2 ⟨d2, rfl, hd, hb, h1, h2, h3, h4⟩; have HD2 := Aside0.mk hd; have HB2 := Aside0.mk (HB1.out.trans hb); have HP2 := Aside0.mk (And.intro h1 (And.intro h2 (And.intro h3 h4))); clear hd hb h1 h2 h3 h4)
        | (go_at_call 11; (with_reducible refine (open_on w.heap.size gd d2 cp0 0 [] w2 HD2.out HP2.out.1 HP2.out.2.1 HP2.out.2.2.2 HC0.out.1 HC0.out.2.1 HC0.out.2.2.1 HC0.out.2.2.2).mono ?_); rintro e3 w3 ⟨d3, gl, v3, rfl, hd, hl, hr, hf, hi, hl0, hln⟩; have HK : Aside0 (FS w.heap.size w w3 gl gd q d3 ⟨booted cp0, 1 - 0⟩ x0) := ⟨⟨hl, hd, hi, hl0, hln.trans HP2.out.2.2.1, rfl, HB2.out.trans hf.bel⟩⟩; obtain ⟨A3, c3, rfl, -⟩ := own_slice hr; clear hd hl hr hf hi hl0 hln))
      have hcv := conv_zeros q HQ9.out w3
      replace HK := Aside0.mk (HK.out.step (below_alloc (Below.refl _ _) (.cells (madeCells #[.int .u8 0] q) 5)))
      go_upto_region 9 with fail
      clear hmk hcv hmul
      generalize w3.alloc (.cells (madeCells #[.int .u8 0] q) 5) = w4 at HK ⊢
      go_upto_region 10 with fail
      rw [hdiv]
      clear hdiv
      go_wp2_with fail
      go_loopg [10] (4 * e) (fun gk s10 wr => ∃ (n : Nat) (d : Dk) (l : Lg), n + gk = 4 * e ∧ s10 = .int .i64 n ∧ Aside0 (FS w.heap.size w wr gl gd q d l (sim 4 p x0 n)))
      case atStart => exact ⟨0, d3, _, by omega, rfl, HK⟩
      case round =>
        clear HK
        obtain ⟨n, d, l, hn, rfl, HK⟩ := hrel
        have hn100 : (n : Int) < 100 := by omega
        have HFI := Aside0.mk (HF.out.fine n (by omega))
        have HJ : Aside0 (n ≤ 1000) := ⟨by omega⟩
        have HN := Aside0.mk hn
        cases gk with
        | succ gk =>
          have HST := Aside0.mk (HF.out.step n (by omega))
          clear hn
          go_wp2_with (first
            | (go_at_call 12; (with_reducible refine (append_fs w.heap.size gl gd q p (sim 4 p x0 n) (sim 4 p x0 (n + 1)) n HK.out HQ.out HFI.out HJ.out HP.out HST.out).mono ?_); rintro e5 w5 ⟨d5, l5, ra, rb, rfl, hk⟩; have HK5 := Aside0.mk hk; clear hk)
            | ((with_reducible refine gate_dst (N := 11) rfl ?_); refine Lb.alloc_event ?hg (v := fun g => .pointer (some ⟨g, 0, none⟩)) (cs := #[.int .i64 0, .int .i64 0, .string ⟨#[]⟩]) (t := 34) (fr := (0, 0)) ?hr ?_; (case hg => rfl); (case hr => first | (go_simp; done) | (go_simp; rfl)); intro g11 hg11 w6 hx hb; have HXg11 := Aside0.mk hx; have HBg11 := Aside0.mk hb; have HGg11 := Aside0.mk hg11; clear hx hb hg11)
            | ((with_reducible refine gate_store (t := 34) (p := 11) rfl ?_); refine Lb.store_whole rfl rfl 34 (.tmp 11) (.tmp 54) rfl (new := #[.int .i64 ra, .int .i64 rb, .string (toB (zeros q))]) rfl rfl HXg11.out rfl (by kernel_rfl) (by simp [Value.oneCell']) ?_; intro w7 hb hg; have HSg11 := Aside0.mk (Lb.grown_below HBg11.out hg HBg11.out.size (by have := HGg11.out; omega)); clear hb hg; have HK7 := Aside0.mk (HK5.out.step HSg11.out)))
          go_roundg gk
          case measure => omega
          case rel => exact ⟨n + 1, d5, l5, by have := HN.out; omega, by go_num, HK7⟩
        | zero =>
          have hn4 : (4 : Int) * (e : Int) = (n : Int) := by omega
          have hn' : 4 * e = n := by omega
          have HNO : Aside0 (cpForN 4 (sim 4 p x0 n).1 p = none) := ⟨by rw [← hn']; exact HF.out.full⟩
          have HLN : Aside0 ((sim 4 p x0 n).1.segs.length = 4) := ⟨by rw [← hn']; exact HF.out.len⟩
          have HFS : Aside0 ((sim 4 p x0 n).1.segs.head?.map (·.id) = some 0) := ⟨by rw [← hn']; exact HF.out.first⟩
          have HIX : Aside0 (((sim 4 p x0 n).1.segs.findIdx? fun s => (s.id : Int) == 0) = some 0) := ⟨by rw [← hn']; exact HF.out.at0⟩
          obtain ⟨y, hy⟩ : ∃ y, simDrop (sim 4 p x0 n) = y := ⟨_, rfl⟩
          have HY := Aside0.mk hy
          have hyy : simDrop (sim 4 p x0 (4 * e)) = y := by rw [hn']; exact hy
          have HL3 : Aside0 (y.1.segs.length = 3) := ⟨by rw [← hyy]; exact HF.out.len3⟩
          have HS2 : Aside0 (∀ j, j < e → ∃ c o, cpForN 4 (sim 4 p y j).1 p = some (c, o) ∧ sim 4 p y (j + 1) = (setLast c ((lastSeg c).used + p) (c.seq + 1), (sim 4 p y j).2 ++ [(c.seq, (lastSeg c).id)])) := ⟨by rw [← hyy]; exact HF.out.step2⟩
          have HF2 : Aside0 (∀ j, j ≤ e → fineC (sim 4 p y j).1 (n + j) = true) := ⟨by rw [← hyy, ← hn']; exact HF.out.fine2⟩
          have HN2 : Aside0 (cpForN 4 (sim 4 p y e).1 p = none) := ⟨by rw [← hyy]; exact HF.out.full2⟩
          have HNUM : Aside0 ((sim 4 p y e).2.length = n) := ⟨by rw [← hyy, ← hn']; exact HF.out.num⟩
          have HFST : Aside0 ((sim 4 p y e).2.head?.map (·.1) = some e) := ⟨by rw [← hyy]; exact HF.out.fst⟩
          have HLST : Aside0 ((sim 4 p y e).2.getLast?.map (·.1) = some (5 * e - 1)) := ⟨by rw [← hyy]; exact HF.out.lst⟩
          have HE := Aside0.mk (And.intro he1 (And.intro he16 hn'))
          clear hn hn' hy hyy
          go_wp2_with (first
            | (go_at_call 12; (with_reducible refine (none_fs w.heap.size gl gd q p (sim 4 p x0 n) n HK.out HQ.out HFI.out HJ.out HP.out HNO.out).mono ?_); rintro e5 w5 ⟨rfl, hk⟩; have HK5 := Aside0.mk hk; clear hk)
            | ((with_reducible refine gate_dst (N := 11) rfl ?_); refine Lb.alloc_event ?hg (v := fun g => .pointer (some ⟨g, 0, none⟩)) (cs := #[.int .i64 0, .int .i64 0, .string ⟨#[]⟩]) (t := 34) (fr := (0, 0)) ?hr ?_; (case hg => rfl); (case hr => first | (go_simp; done) | (go_simp; rfl)); intro g11 hg11 w6 hx hb; have HXg11 := Aside0.mk hx; have HBg11 := Aside0.mk hb; have HGg11 := Aside0.mk hg11; clear hx hb hg11)
            | ((with_reducible refine gate_store (t := 34) (p := 11) rfl ?_); refine Lb.store_whole rfl rfl 34 (.tmp 11) (.tmp 54) rfl (new := #[.int .i64 0, .int .i64 0, .string ⟨#[]⟩]) rfl rfl HXg11.out rfl (by kernel_rfl) (by simp [Value.oneCell']) ?_; intro w7 hb hg; have HSg11 := Aside0.mk (Lb.grown_below HBg11.out hg HBg11.out.size (by have := HGg11.out; omega)); clear hb hg; have HK7 := Aside0.mk (HK5.out.step HSg11.out))
            | (go_at_call 29; (with_reducible refine (free_fs w.heap.size gl gd q (sim 4 p x0 n) 4 0 HK7.out HLN.out (Nat.le_refl _) rfl).mono ?_); rintro e8 w8 ⟨rfl, hk⟩; have HK8 := Aside0.mk hk; clear hk)
            | (go_at_call 28; (with_reducible refine (segs_fs w.heap.size gl gd q (sim 4 p x0 n) HK8.out HLN.out HFS.out).mono ?_); rintro e9 w9 ⟨k9, c9, rfl, z9, hk⟩; have HK9 := Aside0.mk hk; clear hk)
            | (go_at_call 17; (with_reducible refine (drop_fs w.heap.size gl gd q (sim 4 p x0 n) n HK9.out HFI.out HJ.out HIX.out HLN.out).mono ?_); rw [HY.out]; rintro e10 w10 ⟨d10, l10, rfl, hk⟩; have HK10 := Aside0.mk hk; clear hk z9)
            | (go_at_call 29; (with_reducible refine (free_fs w.heap.size gl gd q y 3 1 HK10.out HL3.out (by omega) rfl).mono ?_); rintro e11 w11 ⟨rfl, hk⟩; have HK11 := Aside0.mk hk; clear hk))
          go_loopg [14] e (fun gk s14 wr2 => ∃ (j : Nat) (d : Dk) (l : Lg), j + gk = e ∧ s14 = .int .i64 j ∧ Aside0 (FS w.heap.size w wr2 gl gd q d l (sim 4 p y j)))
          case atStart => exact ⟨0, d10, l10, by omega, rfl, HK11⟩
          case round =>
            clear HK
            obtain ⟨j, d, l, hj, rfl, HK⟩ := hrel
            have HFI := Aside0.mk (HF2.out j (by omega))
            have HJ : Aside0 (n + j ≤ 1000) := ⟨by have := HE.out; omega⟩
            have HJE := Aside0.mk hj
            cases gk with
            | succ gk =>
              have hji : (j : Int) < (e : Int) := by omega
              have HST := Aside0.mk (HS2.out j (by omega))
              clear hj
              go_wp2_with (first
                | (go_at_call 12; (with_reducible refine (append_fs w.heap.size gl gd q p (sim 4 p y j) (sim 4 p y (j + 1)) (n + j) HK.out HQ.out HFI.out HJ.out HP.out HST.out).mono ?_); rintro e5 w5 ⟨d5, l5, ra, rb, rfl, hk⟩; have HK5 := Aside0.mk hk; clear hk)
                | ((with_reducible refine gate_dst (N := 15) rfl ?_); refine Lb.alloc_event ?hg (v := fun g => .pointer (some ⟨g, 0, none⟩)) (cs := #[.int .i64 0, .int .i64 0, .string ⟨#[]⟩]) (t := 34) (fr := (0, 0)) ?hr ?_; (case hg => rfl); (case hr => first | (go_simp; done) | (go_simp; rfl)); intro g15 hg15 w6 hx hb; have HXg15 := Aside0.mk hx; have HBg15 := Aside0.mk hb; have HGg15 := Aside0.mk hg15; clear hx hb hg15)
                | ((with_reducible refine gate_store (t := 34) (p := 15) rfl ?_); refine Lb.store_whole rfl rfl 34 (.tmp 15) (.tmp 94) rfl (new := #[.int .i64 ra, .int .i64 rb, .string (toB (zeros q))]) rfl rfl HXg15.out rfl (by kernel_rfl) (by simp [Value.oneCell']) ?_; intro w7 hb hg; have HSg15 := Aside0.mk (Lb.grown_below HBg15.out hg HBg15.out.size (by have := HGg15.out; omega)); clear hb hg; have HK7 := Aside0.mk (HK5.out.step HSg15.out)))
              go_roundg gk
              case measure => omega
              case rel => exact ⟨j + 1, d5, l5, by have := HJE.out; omega, by go_num, HK7⟩
            | zero =>
              obtain rfl : e = j := by omega
              have hji : ¬ ((e : Int) < (e : Int)) := by omega
              have HNO := HN2
              have HN1000 : Aside0 ((sim 4 p y e).2.length ≤ 1000) := ⟨by rw [HNUM.out]; have := HE.out; omega⟩
              have HRL : Aside0 ((recs (zeros q) (sim 4 p y e).2).length = n) := ⟨by unfold recs; rw [List.length_map]; exact HNUM.out⟩
              obtain ⟨r0, h0, h0'⟩ : ∃ r0, (recs (zeros q) (sim 4 p y e).2)[0]? = some r0 ∧ r0.seq = e := by
                obtain ⟨x, hx1, hx2⟩ := Option.map_eq_some_iff.1 HFST.out
                refine ⟨⟨x.1, x.2, zeros q⟩, ?_, hx2⟩
                unfold recs
                rw [List.getElem?_map, ← List.head?_eq_getElem?, hx1]; rfl
              obtain ⟨r9, h9, h9'⟩ : ∃ r9, (recs (zeros q) (sim 4 p y e).2)[n - 1]? = some r9 ∧ r9.seq = 5 * e - 1 := by
                obtain ⟨x, hx1, hx2⟩ := Option.map_eq_some_iff.1 HLST.out
                refine ⟨⟨x.1, x.2, zeros q⟩, ?_, hx2⟩
                unfold recs
                rw [List.getElem?_map]
                rw [List.getLast?_eq_getElem?, HNUM.out] at hx1
                rw [hx1]; rfl
              have HR0 := Aside0.mk (And.intro h0 h0')
              have HR9 := Aside0.mk (And.intro h9 h9')
              have hn1 : (1 : Int) ≤ (n : Int) := by omega
              have hnt : ((n : Int) - 1).toNat = n - 1 := by omega
              have H5 : Aside0 (((5 * e - 1 : Nat) : Int) = 5 * (e : Int) - 1) := ⟨by omega⟩
              clear h0 h0' h9 h9' hj
              go_wp2_with (first
                | (go_at_call 12; (with_reducible refine (none_fs w.heap.size gl gd q p (sim 4 p y e) (n + e) HK.out HQ.out HFI.out HJ.out HP.out HNO.out).mono ?_); rintro e5 w5 ⟨rfl, hk⟩; have HK5 := Aside0.mk hk; clear hk)
                | ((with_reducible refine gate_dst (N := 17) rfl ?_); refine Lb.alloc_event ?hg (v := fun g => .pointer (some ⟨g, 0, none⟩)) (cs := #[.int .i64 0, .int .i64 0, .string ⟨#[]⟩]) (t := 34) (fr := (0, 0)) ?hr ?_; (case hg => rfl); (case hr => first | (go_simp; done) | (go_simp; rfl)); intro g17 hg17 w6 hx hb; have HXg17 := Aside0.mk hx; have HBg17 := Aside0.mk hb; have HGg17 := Aside0.mk hg17; clear hx hb hg17)
                | ((with_reducible refine gate_store (t := 34) (p := 17) rfl ?_); refine Lb.store_whole rfl rfl 34 (.tmp 17) (.tmp 102) rfl (new := #[.int .i64 0, .int .i64 0, .string ⟨#[]⟩]) rfl rfl HXg17.out rfl (by kernel_rfl) (by simp [Value.oneCell']) ?_; intro w7 hb hg; have HSg17 := Aside0.mk (Lb.grown_below HBg17.out hg HBg17.out.size (by have := HGg17.out; omega)); clear hb hg; have HK7 := Aside0.mk (HK5.out.step HSg17.out))
                | (go_at_call 11; (with_reducible refine (open_fs w.heap.size gl gd q d l (sim 4 p y e) w w7 (n + e) HK7.out HFI.out HJ.out HN1000.out).mono ?_); rintro e8 w8 ⟨gl8, v8, rfl, hr, hb⟩; have HB8 := Aside0.mk hb; obtain ⟨k8, c8, hv, -, z0, -, -⟩ := hr.at 0 r0 HR0.out.1; rw [HRL.out] at hv; rw [HR0.out.2, Nat.zero_mul] at z0; rw [hv] at hr; obtain ⟨z9, -, -⟩ := hr.at2 (n - 1) r9 HR9.out.1; rw [HR9.out.2, H5.out] at z9; subst hv; clear hr hb))
              go_ret
              exact ⟨rfl, HB8.out⟩
end Go.Proofs.YtfiocakhgpdlfaaDoor.Sg
