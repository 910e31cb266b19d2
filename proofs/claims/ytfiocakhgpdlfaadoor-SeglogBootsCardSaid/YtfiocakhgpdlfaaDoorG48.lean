/- SeglogBoots: the walk. -/
import Derived.Test.YtfiocakhgpdlfaaDoorG46
import Derived.Test.YtfiocakhgpdlfaaDoorG47
namespace Go.Proofs.YtfiocakhgpdlfaaDoor.Sg
open Go.RowKit Go.Lib Go.Proofs.YtfiocakhgpdlfaaDoor.Ap Go.Proofs.YtfiocakhgpdlfaaDoorW.PrintWords Go.Proofs.YtfiocakhgpdlfaaDoorW.PrintLast Go.Proofs.YtfiocakhgpdlfaaDoorW.PrintMore
set_option linter.unusedVariables false
set_option linter.unusedSimpArgs false

/-- a row of texts -/
def StrRow (w : World) (A : Option Addr) (ss : List ByteArray) : Prop := ∀ (i : Nat) (s : ByteArray), ss[i]? = some s → ∃ ad, A = some ad ∧ w.cell? (ad.add i) = some (.string s)
structure BT (B : Nat) (w0 w : World) (gl gd : Nat) (d : Dk) (l : Lg) (hs : List ByteArray) (n : Nat) : Prop where
  log : LAt B w gl gd l
  dk : DAt B w gd d
  inv : ∃ all, I d l all ∧ Told hs n all
  left : d.left = 0
  len : d.now.length = 200
  boot : l.cp.boot = 1
  seq : l.cp.seq = n
  segs : l.cp.segs.length ≤ n + 1
  ser : l.cp.serial ≤ n + 2
  bel : Below B w0 w
theorem BT.step {B : Nat} {w0 w w' : World} {gl gd : Nat} {d : Dk} {l : Lg} {hs : List ByteArray} {n : Nat} (h : BT B w0 w gl gd d l hs n) (hb : Below w.heap.size w w') : BT B w0 w' gl gd d l hs n :=
  ⟨h.log.step hb, h.dk.step hb, h.inv, h.left, h.len, h.boot, h.seq, h.segs, h.ser, h.bel.trans (hb.mono h.dk.lt)⟩
theorem BT.own {B : Nat} {w0 w w' : World} {gl gd g : Nat} {d : Dk} {l : Lg} {hs : List ByteArray} {n : Nat} {cs : Array Value} (h : BT B w0 w gl gd d l hs n) (hr : w.heap[g]? = some (.cells cs 34 (0, 0))) (hg : w.grownBy w' (some g)) (hB : B ≤ g) : BT B w0 w' gl gd d l hs n := by
  have hk := types_blk hr hg
  obtain ⟨vS, hl⟩ := h.log
  exact ⟨⟨_, hk _ _ _ _ (by decide) hl.blk, own_keep hl.segs (fun k cs f hr => hk _ _ _ _ (by decide) hr), hl.ge⟩, h.dk.keepT hk (by decide) (by decide) (by decide), h.inv, h.left, h.len, h.boot, h.seq, h.segs, h.ser, h.bel.grown hg h.dk.lt (fun q hq => by injection hq with hq; omega)⟩
theorem append_bt (B gl gd : Nat) {d : Dk} {l : Lg} (hs : List ByteArray) (n m : Nat) (s : ByteArray) {w0 w : World} (h : BT B w0 w gl gd d l hs n) (hsn : hs[n]? = some s) (hm : m = min s.size 500) (hn : n ≤ 9) :
    Calls Tryd.prog 12 #[.pointer (some ⟨gl, 0, none⟩), .string (s.extract 0 m)] w fun e w' => ∃ d' l' a b, e = .returned (.tuple #[.agg #[.int .i64 a, .int .i64 b, .string (s.extract 0 m)], .int .i64 0]) ∧ BT B w0 w' gl gd d' l' hs (n + 1) ∧ FrL B w w' := by
  rw [cutB_extract s m hm]
  obtain ⟨all, hi, ht⟩ := h.inv
  have hcl := cutB_len s
  have hp3 : partsN (cutB s).length ≤ 3 := by unfold partsN; omega
  obtain ⟨c, o, hc, c1, c2, c3, c4⟩ := cpFor_room (S := d.now) (c := l.cp) (n := partsN (cutB s).length) (by have := h.segs; have := h.len; unfold segsN; omega)
  refine (append_on B gl gd d l all (cutB s) c o w h.log h.dk hi h.left (by have := h.ser; exact small_top _ (by omega)) (by rw [h.boot]; exact Nat.le_of_lt (small_top 1 (by omega))) (by rw [h.seq]; exact small_top _ (by omega)) (by omega) hc).mono fun e w' hp => ?_
  obtain ⟨d', l', g1, g2, g3, g4, g5, g6, g7, g8⟩ := hp
  have hne : c.segs ≠ [] := by
    have hne := g5.c.cur.ne
    intro h0
    unfold cpFor at hc
    split at hc
    · injection hc with hc; injection hc with hc _; subst hc; exact hi.c.cur.ne h0
    · cases hf : freeId (segsN d.now) l.cp.segs with
      | none => rw [hf] at hc; cases hc
      | some i => rw [hf] at hc; injection hc with hc; injection hc with hc _; rw [← hc] at h0; simp at h0
  refine ⟨d', l', _, _, g1, ⟨g3, g2, ⟨_, g5, ?_⟩, g6, by rw [g7, h.len], ?_, ?_, ?_, ?_, h.bel.trans g4.bel⟩, g4⟩
  · rw [c3, h.seq]; exact ht.snoc hsn
  · rw [g8]; show c.boot = 1; rw [c2, h.boot]
  · rw [g8]; show c.seq + 1 = n + 1; rw [c3, h.seq]
  · rw [g8, setLast_len _ _ _ hne]; have := h.segs; omega
  · rw [g8]; show c.serial ≤ n + 1 + 2; have := h.ser; omega
/-- what is known between two openings -/
structure BO (B : Nat) (w0 w : World) (gd : Nat) (d : Dk) (hs : List ByteArray) (n k : Nat) : Prop where
  dk : DAt B w gd d
  idle : Idle d
  left : d.left = 0
  inv : ∃ cur place all, C d.now cur place all ∧ Told hs n all ∧ cur.boot = 1 + k ∧ cur.seq = n ∧ cur.serial ≤ n + 2 + k
  bel : Below B w0 w
theorem BO.step {B : Nat} {w0 w w' : World} {gd : Nat} {d : Dk} {hs : List ByteArray} {n k : Nat} (h : BO B w0 w gd d hs n k) (hb : Below w.heap.size w w') : BO B w0 w' gd d hs n k :=
  ⟨h.dk.step hb, h.idle, h.left, h.inv, h.bel.trans (hb.mono h.dk.lt)⟩
theorem BT.out {B : Nat} {w0 w : World} {gl gd : Nat} {d : Dk} {l : Lg} {hs : List ByteArray} {n : Nat} (h : BT B w0 w gl gd d l hs n) : BO B w0 w gd d hs n 0 := by
  obtain ⟨all, hi, ht⟩ := h.inv
  exact ⟨h.dk, hi.idle, h.left, ⟨l.cp, l.place, all, hi.c, ht, by rw [h.boot], h.seq, by have := h.ser; omega⟩, h.bel⟩
theorem crash_bo (B gd : Nat) {d : Dk} {hs : List ByteArray} {n k : Nat} {w0 w : World} (i : Int) (h : BO B w0 w gd d hs n k) :
    Calls Tryd.prog 13 #[.pointer (some ⟨gd, 0, none⟩), .int .i64 i] w fun e w' => e = .returned (.tuple #[]) ∧ BO B w0 w' gd (d.crash i) hs n k := by
  refine (crash_calls B gd d i w h.dk (by rw [h.idle.queue]; simp)).mono fun e w' hp => ?_
  obtain ⟨g1, g2, g3⟩ := hp
  obtain ⟨i1, i2, i3⟩ := h.idle.crash i
  exact ⟨g1, g2, i1, i3, by rw [i2]; exact h.inv, h.bel.trans g3.bel⟩
theorem open_bo (B gd : Nat) {d : Dk} {hs : List ByteArray} {n k : Nat} {w0 w : World} (h : BO B w0 w gd d hs n k) (hn : n ≤ 9) (hk : k ≤ 100) :
    Calls Tryd.prog 11 #[.pointer (some ⟨gd, 0, none⟩)] w fun e w' => ∃ d' gl v l all, e = .returned (.tuple #[.pointer (some ⟨gl, 0, none⟩), v, .int .i64 0]) ∧ BO B w0 w' gd d' hs n (k + 1) ∧ LAt B w' gl gd l ∧ l.cp.boot = 2 + k ∧ RecsAt B w' v all ∧ Told hs n all := by
  obtain ⟨cur, place, all, hC, ht, h1, h2, h3⟩ := h.inv
  refine (open_on B gd d cur place all w h.dk h.idle h.left hC (small_top _ (by omega)) (by rw [h1]; exact small_top _ (by omega)) (by rw [h2]; exact small_top _ (by omega)) (by rw [ht.1]; omega)).mono fun e w' hp => ?_
  obtain ⟨d', gl, v, g1, g2, g3, g4, g5, g6, g7, g8⟩ := hp
  exact ⟨d', gl, v, _, all, g1, ⟨g2, g6.idle, g7, ⟨_, _, all, g6.c, ht, by show cur.boot + 1 = _; omega, h2, by show cur.serial + 1 ≤ _; omega⟩, h.bel.trans g5.bel⟩, g3, by show cur.boot + 1 = _; omega, g4, ht⟩
theorem new200 (w : World) : Calls Tryd.prog 9 #[.int .i64 200] w fun e w' => ∃ g, e = .returned (.tuple #[.pointer (some ⟨g, 0, none⟩), .int .i64 0]) ∧ DAt w.heap.size w' g (Dk.mk0 200) ∧ Below w.heap.size w w' := new_calls 200 w (by omega) (by omega)

set_option maxRecDepth 100000 in
set_option maxHeartbeats 8000000 in
theorem boots_calls (A : Option Addr) (cap : Nat) (hs : List ByteArray) (a : Int) (w : World) (hA : StrRow w A hs) : Calls Tryd.prog 3 #[.slice A hs.length cap, .int .i64 a] w fun e w' => e = .returned (.bool true) ∧ Below w.heap.size w w' := by
  have HC0 : Aside0 (cp0.serial < top ∧ cp0.boot < top ∧ cp0.seq < top ∧ ([] : List Rec).length ≤ 100000) := ⟨small_top 1 (by omega), small_top 0 (by omega), small_top 0 (by omega), by simp⟩
  have HA := Aside0.mk hA
  obtain ⟨b, hb⟩ : ∃ b : Bool, b = !decide (1 ≤ a ∧ a ≤ 30) := ⟨_, rfl⟩
  have HBB := Aside0.mk hb
  obtain ⟨N, hN⟩ : ∃ N, N = min hs.length 9 := ⟨_, rfl⟩
  have HN := Aside0.mk hN
  have hN9 : N ≤ 9 := by omega
  clear hb hA hN
  go_enter Tryd.func3, Tryd.ntmps3
  go_upto_region 3 with (first
    | (go_at_call 8; (with_reducible refine (speaks_calls w).mono ?_); rintro e0 w0 ⟨rfl, hb⟩; have HB0 := Aside0.mk hb; clear hb))
  go_cut [26] (fun s26 wx => w0 = wx ∧ s26 = .bool b)
  case first =>
    by_cases h1 : a < 1
    · go_wp2_with fail
      go_meet
      exact ⟨rfl, by rw [HBB.out, decide_eq_false (by omega)]; rfl⟩
    · by_cases h2 : 30 < a
      · go_wp2_with fail
        go_meet
        exact ⟨rfl, by rw [HBB.out, decide_eq_false (by omega)]; rfl⟩
      · go_wp2_with fail
        go_meet
        exact ⟨rfl, by rw [HBB.out, decide_eq_true (by omega)]; rfl⟩
  case rest =>
    obtain ⟨rfl, rfl⟩ := hcut
    go_upto_if 26 with fail
    go_cut [1] (fun s1 wx => w0 = wx ∧ ∃ K : Nat, 1 ≤ K ∧ K ≤ 30 ∧ s1 = .int .i64 K)
    case first =>
      have hbb := HBB.out
      cases b with
      | true =>
        clear hbb
        go_wp2_with fail
        go_meet
        exact ⟨rfl, 4, by omega, by omega, rfl⟩
      | false =>
        have ha : 1 ≤ a ∧ a ≤ 30 := by
          by_cases h : 1 ≤ a ∧ a ≤ 30
          · exact h
          · rw [decide_eq_false h] at hbb; cases hbb
        clear hbb
        go_wp2_with fail
        go_meet
        exact ⟨rfl, a.toNat, by omega, by omega, by congr 1; omega⟩
    case rest =>
      obtain ⟨rfl, K, hK1, hK2, rfl⟩ := hcut
      go_upto_region 8 with (first
        | (go_at_call 9; (with_reducible refine (new200 w0).mono ?_); rintro e1 w1 ⟨gd, rfl, hd, hb⟩; have HD1 : Aside0 (DAt w.heap.size w1 gd (Dk.mk0 200)) := ⟨hd.less HB0.out.size⟩; have HB1 := Aside0.mk (below_step HB0.out hb); clear hd hb)
        | (go_at_call 10; (with_reducible refine (format_on w.heap.size gd 200 w1 (by omega) HD1.out).mono ?_); rintro e2 w2 ⟨d2, rfl, hd, hb, h1, h2, h3, h4⟩; have HD2 := Aside0.mk hd; have HB2 := Aside0.mk (HB1.out.trans hb); have HP2 := Aside0.mk (And.intro h1 (And.intro h2 (And.intro h3 h4))); clear hd hb h1 h2 h3 h4)
        | (go_at_call 11; (with_reducible refine (open_on w.heap.size gd d2 cp0 0 [] w2 HD2.out HP2.out.1 HP2.out.2.1 HP2.out.2.2.2 HC0.out.1 HC0.out.2.1 HC0.out.2.2.1 HC0.out.2.2.2).mono ?_); rintro e3 w3 ⟨d3, gl, v3, rfl, hd, hl, hr, hf, hi, hl0, hln⟩; have HK : Aside0 (BT w.heap.size w w3 gl gd d3 ⟨booted cp0, 1 - 0⟩ hs 0) := ⟨⟨hl, hd, ⟨[], hi, rfl, fun i x hx => by simp at hx⟩, hl0, hln.trans HP2.out.2.2.1, rfl, rfl, by decide, by decide, HB2.out.trans hf.bel⟩⟩; clear hd hl hr hf hi hl0 hln))
      go_wp2_with fail
      go_loopg [10, 11] N (fun gk s10 s11 wr => ∃ (i : Nat) (d : Dk) (l : Lg), i + gk = N ∧ s10 = .int .i64 i ∧ s11 = .int .i64 i ∧ Aside0 (BT w.heap.size w wr gl gd d l hs i))
      case atStart => exact ⟨0, d3, _, by omega, rfl, rfl, HK⟩
      case round =>
        clear HK
        obtain ⟨i, d, l, hi, rfl, rfl, HK⟩ := hrel
        have HI := Aside0.mk hi
        have hi9 : (i : Int) ≤ 9 := by omega
        go_upto_region 10 with fail
        go_cut [46] (fun s46 wx => wr = wx ∧ s46 = .bool (decide (i < N)))
        case first =>
          have hn := HN.out
          by_cases h1 : i < hs.length
          · have h1I : (i : Int) < (hs.length : Int) := by omega
            by_cases h2 : i < 9
            · have h2I : (i : Int) < 9 := by omega
              have e : decide (i < N) = true := decide_eq_true (by omega)
              have HE := Aside0.mk e
              clear hn hi e
              go_wp2_with fail
              go_meet
              exact ⟨rfl, by rw [HE.out]⟩
            · have h2I : ¬ ((i : Int) < 9) := by omega
              have e : decide (i < N) = false := decide_eq_false (by omega)
              have HE := Aside0.mk e
              clear hn hi e
              go_wp2_with fail
              go_meet
              exact ⟨rfl, by rw [HE.out]⟩
          · have h1I : ¬ ((i : Int) < (hs.length : Int)) := by omega
            have e : decide (i < N) = false := decide_eq_false (by omega)
            have HE := Aside0.mk e
            clear hn hi e
            go_wp2_with fail
            go_meet
            exact ⟨rfl, by rw [HE.out]⟩
        case rest =>
          obtain ⟨rfl, rfl⟩ := hcut
          cases gk with
          | succ gk =>
            have e : decide (i < N) = true := decide_eq_true (by omega)
            rw [e]
            have hlt : i < hs.length := by have := HN.out; omega
            obtain ⟨s, hsi⟩ : ∃ s, hs[i]? = some s := ⟨_, List.getElem?_eq_getElem hlt⟩
            have HSI := Aside0.mk hsi
            obtain ⟨ad, rfl, hcx⟩ := HA.out i s hsi
            have HCX : Aside0 (∀ w', Below w.heap.size w w' → w'.cell? (ad.add i) = some (.string s)) := ⟨fun w' hb => Lib.Below.cellOf hb hcx (Nat.le_refl _)⟩
            have HI9 : Aside0 (i ≤ 9) := ⟨by omega⟩
            obtain ⟨m, hm⟩ : ∃ m, m = min s.size 500 := ⟨_, rfl⟩
            have HMM := Aside0.mk hm
            have hmin : min (s.size : Int) 500 = (m : Int) := by omega
            have hms : (m : Int) ≤ (s.size : Int) := by omega
            have hilt : (i : Int) < (hs.length : Int) := by omega
            clear e hsi hcx hm hi hlt
            go_upto_region 12 with fail
            go_cut [13] (fun s13 wx => s13 = .int .i64 0 ∧ ∃ d' l', Aside0 (BT w.heap.size w wx gl gd d' l' hs (i + 1)))
            case first =>
              have HB3 := Aside0.mk (HK.out.step (Lb.below_drew wr)).bel
              have c1 := HCX.out _ HB3.out
              have HB4 := Aside0.mk (HK.out.step (below_alloc (Below.refl _ wr) (.cells #[.int .i64 0, .int .i64 0, .string ⟨#[]⟩] 34))).bel
              go_region_held3 (fun w' => w'.cell? (ad.add i) = some (.string s)) (first | exact HCX.out _ HB3.out | exact HCX.out _ HB5.out | exact HCX.out _ (HK.out.step (below_step (Lb.below_drew wr) (below_alloc (Below.refl _ _) (.cells #[.int .i64 0, .int .i64 0, .string ⟨#[]⟩] 34)))).bel | exact HCX.out _ (HK.out.step (below_step (below_alloc (Below.refl _ wr) (.cells #[.int .i64 0, .int .i64 0, .string ⟨#[]⟩] 34)) (Lb.below_drew _))).bel | exact HCX.out _ (HK5.out.step (below_alloc (Below.refl _ _) _)).bel | exact HCX.out _ (HK5.out.own HP.out (put3 HP.out).2 HK.out.bel.size).bel) (first
                | (go_at_call 12; (first
                  | ((with_reducible refine (append_bt w.heap.size gl gd hs i m s (HK.out.step (Lb.below_drew wr)) HSI.out HMM.out HI9.out).mono ?_); rintro e5 w5 ⟨d5, l5, ra, rb, rfl, hk, hf⟩; have HK5 := Aside0.mk hk; have HB5 := Aside0.mk hk.bel; clear hk hf)
                  | ((with_reducible refine (append_bt w.heap.size gl gd hs i m s (HK.out.step (below_step (Lb.below_drew wr) (below_alloc (Below.refl _ _) (.cells #[.int .i64 0, .int .i64 0, .string ⟨#[]⟩] 34)))) HSI.out HMM.out HI9.out).mono ?_); rintro e5 w5 ⟨d5, l5, ra, rb, rfl, hk, hf⟩; have HK5 := Aside0.mk hk; have HB5 := Aside0.mk hk.bel; have HP := Aside0.mk (hf.frm _ _ _ _ (blk_new wr.drew (.cells #[.int .i64 0, .int .i64 0, .string ⟨#[]⟩] 34)) (by decide) (by decide) (by decide) (by decide) (by decide)); have p0 := (blk_cell HP.out 0).trans rfl; have p1 := (blk_cell HP.out 1).trans rfl; have p2 := (blk_cell HP.out 2).trans rfl; have f0 := blk_free HP.out 0; have f1 := blk_free HP.out 1; have f2 := blk_free HP.out 2; clear hk hf)
                  | ((with_reducible refine (append_bt w.heap.size gl gd hs i m s (HK.out.step (below_step (below_alloc (Below.refl _ wr) (.cells #[.int .i64 0, .int .i64 0, .string ⟨#[]⟩] 34)) (Lb.below_drew _))) HSI.out HMM.out HI9.out).mono ?_); rintro e5 w5 ⟨d5, l5, ra, rb, rfl, hk, hf⟩; have HK5 := Aside0.mk hk; have HB5 := Aside0.mk hk.bel; have HP := Aside0.mk (hf.frm _ _ _ _ (Lb.blk_below (blk_new wr (.cells #[.int .i64 0, .int .i64 0, .string ⟨#[]⟩] 34)) (Lb.below_drew _)) (by decide) (by decide) (by decide) (by decide) (by decide)); have p0 := (blk_cell HP.out 0).trans rfl; have p1 := (blk_cell HP.out 1).trans rfl; have p2 := (blk_cell HP.out 2).trans rfl; have f0 := blk_free HP.out 0; have f1 := blk_free HP.out 1; have f2 := blk_free HP.out 2; clear hk hf))))
              all_goals
                go_wp2_with fail
                go_meet
                first
                  | exact ⟨rfl, d5, l5, ⟨HK5.out.own HP.out (put3 HP.out).2 HK.out.bel.size⟩⟩
                  | exact ⟨rfl, d5, l5, ⟨HK5.out.step (below_alloc (Below.refl _ _) _)⟩⟩
            case rest =>
              clear HK
              obtain ⟨rfl, d5, l5, HK⟩ := hcut
              go_wp2_with fail
              go_roundg gk
              case measure => omega
              case rel => exact ⟨i + 1, d5, l5, by have := HI.out; omega, by go_num, by go_num, HK⟩
          | zero =>
            have e : decide (i < N) = false := decide_eq_false (by omega)
            rw [e]
            obtain rfl : i = N := by omega
            have HO : Aside0 (BO w.heap.size w wr gd d hs i 0) := ⟨HK.out.out⟩
            have HIL : Aside0 (i ≤ 9 ∧ i ≤ hs.length) := ⟨by have := HN.out; omega⟩
            clear e hi HK
            go_wp2_with fail
            go_loopg [14] K (fun gk s14 wr2 => ∃ (k : Nat) (d : Dk), k + gk = K ∧ s14 = .int .i64 k ∧ Aside0 (BO w.heap.size w wr2 gd d hs i k))
            case atStart => exact ⟨0, d, by omega, rfl, HO⟩
            case round =>
              clear HO
              obtain ⟨k, d, hk, rfl, HO⟩ := hrel
              have HKK := Aside0.mk hk
              cases gk with
              | zero =>
                obtain rfl : k = K := by omega
                have hkk : ¬ ((k : Int) < (k : Int)) := by omega
                go_wp2_with fail
                go_ret
                exact ⟨rfl, HO.out.bel⟩
              | succ gkk =>
                have hkk : (k : Int) < (K : Int) := by omega
                have hk30 : (k : Int) ≤ 30 := by omega
                have HK30 : Aside0 (k ≤ 100) := ⟨by omega⟩
                go_upto_if 76 with fail
                go_cut [79] (fun s79 wx => ∃ d', Aside0 (BO w.heap.size w wx gd d' hs i k))
                case first =>
                  have hpar : (k : Int) % 2 = 0 ∨ (k : Int) % 2 = 1 := by omega
                  rcases hpar with hpar | hpar
                  · go_wp2_with (first
                      | (go_at_call 13; (with_reducible refine (crash_bo w.heap.size gd _ HO.out).mono ?_); rintro e6 w6 ⟨rfl, hb⟩; have HO6 := Aside0.mk hb; clear hb))
                    go_meet
                    exact ⟨_, HO6⟩
                  · go_wp2_with fail
                    go_meet
                    exact ⟨_, HO⟩
                case rest =>
                  clear HO
                  obtain ⟨d', HO⟩ := hcut
                  have HIL9 : Aside0 (i ≤ 9) := ⟨HIL.out.1⟩
                  have h2k : (2 : Int) + (k : Int) = ((2 + k : Nat) : Int) := by omega
                  have H2K := Aside0.mk h2k
                  clear h2k hk
                  go_wp2_with (first
                    | (go_at_call 11; (with_reducible refine (open_bo w.heap.size gd HO.out HIL9.out HK30.out).mono ?_); rintro e7 w7 ⟨d7, gl7, v7, l7, all, rfl, ho, hl, hbt, hr, ht⟩; have HO7 := Aside0.mk ho; have HL7 := Aside0.mk hl; have HBT : Aside0 ((l7.cp.boot : Int) = 2 + (k : Int)) := ⟨by rw [hbt, H2K.out]⟩; have HR7 := Aside0.mk hr; have HT7 := Aside0.mk ht; obtain ⟨A7, n7, c7, hv7, hn7⟩ : ∃ A7 n7 c7, v7 = .slice A7 n7 c7 ∧ i = n7 := (by obtain ⟨A7, c7, e, _⟩ := own_slice hr; exact ⟨A7, _, c7, e, ht.1.symm⟩); subst hv7 hn7; clear ho hl hbt hr ht)
                    | (go_at_call 14; (with_reducible refine (boot_any w.heap.size gl7 gd l7 (2 + (k : Int)) HBT.out w7 HL7.out).mono ?_); rintro e8 w8 ⟨rfl, rfl⟩))
                  go_loopg [18] i (fun gk s18 wr3 => ∃ j : Nat, j + gk = i ∧ s18 = .int .i64 j ∧ Aside0 (Below w7.heap.size w7 wr3))
                  case atStart => exact ⟨0, by omega, rfl, ⟨Below.refl _ _⟩⟩
                  case round =>
                    obtain ⟨j, hj, rfl, HW⟩ := hrel
                    have HJ := Aside0.mk hj
                    cases gk with
                    | zero =>
                      obtain rfl : j = i := by omega
                      have hjj : ¬ ((j : Int) < (j : Int)) := by omega
                      clear hj
                      go_wp2_with fail
                      go_roundg gkk
                      case measure => omega
                      case rel => exact ⟨k + 1, d7, by have := HKK.out; omega, by go_num, ⟨HO7.out.step HW.out⟩⟩
                    | succ gk =>
                      have hjj : (j : Int) < (i : Int) := by omega
                      have hj9 : (j : Int) ≤ 9 := by have := HIL.out; omega
                      have hlt : j < all.length := by rw [HT7.out.1]; omega
                      have hlt2 : j < hs.length := by have := HIL.out; omega
                      have hjl : (j : Int) < (hs.length : Int) := by omega
                      obtain ⟨x, hx⟩ : ∃ x, all[j]? = some x := ⟨_, List.getElem?_eq_getElem hlt⟩
                      obtain ⟨e1, s, e2, e3⟩ := HT7.out.2 j x hx
                      obtain ⟨ad, rfl, hcx⟩ := HA.out j s e2
                      have c1 := Lib.Below.cellOf (HO7.out.step HW.out).bel hcx (Nat.le_refl _)
                      obtain ⟨k9, c9, hv9, -, z0, -, z2⟩ := (HR7.out.step HW.out).at j x hx
                      injection hv9 with hv9 hq1 hq2
                      subst hv9
                      rw [e1] at z0
                      rw [e3] at z2
                      obtain ⟨m, hm⟩ : ∃ m, m = min s.size 500 := ⟨_, rfl⟩
                      have hmin : min (s.size : Int) 500 = (m : Int) := by omega
                      have hms : (m : Int) ≤ (s.size : Int) := by omega
                      have hE := cutB_extract s m hm
                      clear hq1 hq2 hx e1 e2 e3 hcx hm hlt hlt2 hj
                      go_wp2_with fail
                      go_quiet (fail)
                      go_wp2_with fail
                      go_roundg gk
                      case measure => omega
                      case rel => exact ⟨j + 1, by have := HJ.out; omega, by go_num, ⟨below_step HW.out (bel_drewN _ _)⟩⟩
end Go.Proofs.YtfiocakhgpdlfaaDoor.Sg
