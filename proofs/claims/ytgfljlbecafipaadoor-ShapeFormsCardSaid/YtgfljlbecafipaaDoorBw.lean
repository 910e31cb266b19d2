/- The walk of (*strings.Replacer).build. -/
import Derived.Test.YtgfljlbecafipaaDoorBu
import Derived.Lib.SliceRun
namespace Go.Proofs.YtgfljlbecafipaaDoor.Rb
open Go.RowKit Go.Lib Go.Proofs.YtgfljlbecafipaaDoorW.PrintWords Go.Proofs.YtgfljlbecafipaaDoorW.PrintLast Go.Proofs.YtgfljlbecafipaaDoorW.PrintMore
set_option linter.unusedVariables false
set_option linter.unusedSimpArgs false

theorem one_cell {w : World} {g : Nat} {x : UInt8} {t : TypeId} (h : w.heap[g]? = some (.cells #[.int .u8 (x.toNat : Int)] t (0, 0))) (j : Nat) (hj : j < [x].length) : w.cell? ((⟨g, 0, none⟩ : Addr).add j) = some (.int .u8 ([x][j].toNat : Int)) := by
  have e0 : j = 0 := by simpa using hj
  subst e0
  have e : (⟨g, 0, none⟩ : Addr).add 0 = ⟨g, 0, none⟩ := by unfold Addr.add; split <;> simp_all
  rw [e]
  exact (blk_cell h 0).trans rfl

theorem one_back (w : World) (g : Nat) (x : UInt8) (old : ByteArray) (ho : old = ⟨#[x]⟩) (h : w.heap[g]? = some (.cells #[.int .u8 (x.toNat : Int)] 5 (0, 0))) :
    (convert 83 9 (.slice (some ⟨g, 0, none⟩) 1 1)).run Tryd.prog w = .ok (.string old) w := by
  subst ho
  exact run_convert_bytes_back (P := Tryd.prog) w 83 9 5 ⟨g, 0, none⟩ 1 [x] Tryd.underlying83 Tryd.underlying5 Tryd.underlying9 (fun j hj => one_cell h j hj)

def isNil : Option Value → Bool
  | some (.slice none 0 0) => true
  | _ => false
theorem isNil_eq : ∀ {v : Option Value}, isNil v = true → v = some (.slice none 0 0) := by
  intro v h
  unfold isNil at h
  split at h
  · rfl
  · cases h
theorem zone (tb i : Nat) : ∀ q ∈ ((Tryd.zeroCells112).setIfInBounds 256 (.slice (some ⟨tb, 0, none⟩) 0 i)).toList, q.oneCell' = true := by
  intro q hq
  rw [Array.toList_setIfInBounds] at hq
  rcases List.mem_or_eq_of_mem_set hq with h | h
  · exact (List.all_eq_true.1 (by kernel_rfl)) q h
  · subst h; rfl

theorem BI.start {w w1 w2 w3 : World} {tb rb n : Nat} (h1 : w1.heap[tb]? = some (.cells (madeCells #[Value.string ⟨#[]⟩] n) 9 (0, 0))) (hb1 : Below w.heap.size w w1) (ht : tb = w.heap.size)
    (hb2 : Below w1.heap.size w1 w2) (hr : rb = w1.heap.size) (h3 : w3.heap[rb]? = some (.cells ((Tryd.zeroCells112).setIfInBounds 256 (.slice (some ⟨tb, 0, none⟩) 0 n)) 112 (0, 0))) (hg : w2.grownBy w3 (some rb)) :
    BI w.heap.size w3 rb tb 0 n (tabOf []) ((Tryd.zeroCells112).setIfInBounds 256 (.slice (some ⟨tb, 0, none⟩) 0 n)) where
  hr := h3
  hsize := by rw [Array.size_setIfInBounds]; kernel_rfl
  hlast := by rw [Array.getElem?_setIfInBounds, if_pos rfl, if_pos (by rw [show (Tryd.zeroCells112).size = 257 by kernel_rfl]; omega)]
  no := fun c hc _ => by
    rw [Array.getElem?_setIfInBounds, if_neg (by omega)]
    exact isNil_eq ((List.all_eq_true.1 (show ((List.range 256).all fun c => isNil ((Tryd.zeroCells112)[c]?)) = true by kernel_rfl)) c (List.mem_range.2 hc))
  yes := fun c bs hc hT => by cases hT
  ht := ⟨_, _, Lb.blk_grown' (Lb.blk_below h1 hb2) hg (by have := blk_lt h1; omega), size_madeCells _ _⟩
  ne := by have := blk_lt h1; omega
  geR := by have := hb1.size; omega
  geT := by omega

set_option maxRecDepth 1000000 in
set_option maxHeartbeats 8000000 in
theorem build_calls (R ob cc n : Nat) (L : List (UInt8 × ByteArray)) (w : World) (hR : w.cell? ⟨R, 4, none⟩ = some (.slice (some ⟨ob, 0, none⟩) (2 * n) cc)) (hn : L.length = n) (h2 : 2 ≤ n) (h100 : n ≤ 100)
    (hc : ∀ i (h : i < L.length), w.cell? ⟨ob, 2 * i, none⟩ = some (.string ⟨#[(L[i]'h).1]⟩) ∧ w.cell? ⟨ob, 2 * i + 1, none⟩ = some (.string (L[i]'h).2))
    (hone : allOne L = false) (hnd : (L.map (·.1)).Nodup) (hsz : ∀ p ∈ L, p.2.size ≤ 1000) :
    Calls Tryd.prog 35 #[.pointer (some ⟨R, 0, none⟩)] w fun e w' => ∃ rb tb cur, e = .returned (.iface 113 (.pointer (some ⟨rb, 0, none⟩))) ∧ BI w.heap.size w' rb tb n n (tabOf L) cur ∧ Below w.heap.size w w' := by
  have HC := Aside0.mk hc
  have HSZ := Aside0.mk hsz
  have HND := Aside0.mk hnd
  have HONE := Aside0.mk hone
  clear hc hnd hsz hone
  have f2 : (((2 * n : Nat) : Int) == 2) = false := beq_eq_false_iff_ne.2 (by omega)
  obtain ⟨m, hm⟩ : ∃ m, m = 2 * n := ⟨_, rfl⟩
  rw [← hm] at hR f2
  have HM := Aside0.mk hm
  clear hm
  go_enter Tryd.func35, Tryd.ntmps35
  go_wp2
  go_loopg [4, 5] n (fun g5 s4 s5 wr => w = wr ∧ ∃ i x : Nat, i ≤ n ∧ x = 2 * i ∧ g5 = n - i ∧ s5 = .int .i64 x ∧ s4 = .bool (allOne (L.take i)))
  case atStart => exact ⟨rfl, 0, 0, Nat.zero_le _, rfl, rfl, rfl, by simp [allOne]⟩
  case round =>
    obtain ⟨rfl, i, x, hi, hx, rfl, rfl, rfl⟩ := hrel
    by_cases hlt : i < n
    · obtain ⟨h0, h1⟩ := HC.out i (by omega)
      rw [← hx] at h0
      have HX := Aside0.mk hx
      have hxm : (x : Int) < (m : Int) := by have := HM.out; omega
      obtain ⟨y, hy⟩ : ∃ y, y = x + 1 := ⟨_, rfl⟩
      rw [show 2 * i + 1 = y by omega] at h1
      have hxy : (x : Int) + 1 = (y : Int) := by omega
      have hym : (y : Int) < (m : Int) := by have := HM.out; omega
      have hwy : wrap64 (y : Int) = (y : Int) := by have := HM.out; unfold wrap64; omega
      obtain ⟨b, hb⟩ : ∃ b, b = (L[i]'(by omega)).2 := ⟨_, rfl⟩
      rw [← hb] at h1
      have HT : Aside0 (allOne (L.take (i + 1)) = (allOne (L.take i) && (b.size == 1))) := ⟨by
        rw [List.take_succ_eq_append_getElem (by omega : i < L.length), hb]; unfold allOne; rw [List.all_append]; simp⟩
      clear hb hx hy
      generalize allOne (L.take i) = q at HT ⊢
      by_cases hb1 : b.size = 1
      · have e1 : (b.size != 1) = false := by simp [hb1]
        have e1' : ((b.size : Int) != 1) = false := by simp [hb1]
        have HB1 := Aside0.mk hb1
        clear hb1 e1
        go_wp2
        go_roundg (n - (i + 1))
        case measure => omega
        case rel => exact ⟨rfl, i + 1, x + 2, by omega, by have := HX.out; omega, rfl, by first | rfl | (congr 1; simp; have := HM.out; have := HX.out; unfold wrap64; omega), by rw [HT.out, HB1.out]; simp⟩
      · have e1' : ((b.size : Int) != 1) = true := by simp; omega
        have HB1 := Aside0.mk hb1
        clear hb1
        go_wp2
        go_roundg (n - (i + 1))
        case measure => omega
        case rel => exact ⟨rfl, i + 1, x + 2, by omega, by have := HX.out; omega, rfl, by first | rfl | (congr 1; simp; have := HM.out; have := HX.out; unfold wrap64; omega), by rw [HT.out]; simp [HB1.out]⟩
    · obtain rfl : i = n := by omega
      have hall : L.take i = L := by rw [← hn, List.take_length]
      have hxm : ¬ ((x : Int) < (m : Int)) := by have := HM.out; omega
      rw [hall, HONE.out]
      have hq : (m : Int) / 2 = (i : Int) := by have := HM.out; omega
      have hq' : Int.tdiv (m : Int) 2 = (i : Int) := by have := HM.out; rw [Int.tdiv_eq_ediv_of_nonneg (by omega)]; exact hq
      clear hall hx
      obtain ⟨ii, hi, hz⟩ := Option.map_eq_some_iff.1 (show ((Tryd.prog).info? 9).map (fun i => (i.zero, i.size, i.bytes)) = some (some (.string ⟨#[]⟩), 1, 16) by kernel_rfl)
      simp only [Prod.mk.injEq] at hz
      have hmk := run_make (P := Tryd.prog) w 34 9 ii (.string ⟨#[]⟩) Tryd.underlying34 hi hz.1 .i64 .i64 0 i (by omega) (by omega) (by rw [hz.2.2]; omega) (by omega)
      rw [hz.2.1] at hmk
      simp only [Int.toNat_zero, Int.toNat_natCast, Nat.mul_one] at hmk
      clear hz hi
      go_wp2_with (first
        | ((with_reducible refine gate_dst (N := 94) rfl ?_); refine Lb.alloc_event ?hg (v := fun g => .slice (some ⟨g, 0, none⟩) 0 i) (cs := madeCells #[Value.string ⟨#[]⟩] i) (t := 9) (fr := (0, 0)) ?hr ?_; (case hg => rfl); (case hr => first | (go_simp; done) | (go_simp; rfl)); intro tb htb w1 hbox1 hb1; have HB1 := Aside0.mk hb1; have HX1 := Aside0.mk hbox1; have HTB := Aside0.mk htb; clear hbox1 hb1 htb)
        | ((with_reducible refine gate_dst (N := 11) rfl ?_); refine box_event ?hg (N := 11) ?hd (cs := Tryd.zeroCells112) (t := 112) ?hr ?_; (case hd => rfl); (case hg => rfl); (case hr => first | (go_simp; done) | (go_simp; rfl)); intro rb hrb w2 hbox2 hb2; have HB2 := Aside0.mk hb2; have HX2 := Aside0.mk hbox2; have HRB := Aside0.mk hrb; clear hbox2 hb2 hrb)
        | ((with_reducible refine gate_store (t := 112) (p := 11) rfl ?_); refine Lb.store_whole rfl rfl 112 (.tmp 11) (.tmp 95) rfl (new := (Tryd.zeroCells112).setIfInBounds 256 (.slice (some ⟨tb, 0, none⟩) 0 i)) rfl rfl HX2.out (by simp) (by kernel_rfl) ?h1 ?_; (case h1 => exact zone _ _); intro w3 hb3 hg3; have HG3 := Aside0.mk hg3; have HX3 := Aside0.mk hb3; clear hb3 hg3))
      have HB := Aside0.mk (BI.start HX1.out HB1.out HTB.out HB2.out HRB.out HX3.out HG3.out)
      have HBL := Aside0.mk (Lb.grown_below (below_step HB1.out HB2.out) HG3.out (below_step HB1.out HB2.out).size HB.out.geR)
      have hen := fun (a : Option Addr) (l c : Nat) (w : World) => Lib.run_eql_slice_nil (P := Tryd.prog) w 83 5 a l c 0 0 Tryd.underlying83
      have HOB := Aside0.mk (World.block_lt_of_cell? w _ (HC.out 0 (by omega)).1)
      have em : ((m : Nat) : Int) - 2 = 2 * (i : Int) - 2 := by have := HM.out; omega
      rw [em]
      clear em hq hq' hmk hxm
      go_loopg [12] i (fun g5 s12 wr => ∃ (j : Nat) (cur : Array Value), j ≤ i ∧ g5 = j ∧ s12 = .int .i64 (2 * (j : Int) - 2) ∧ Aside0 (BI w.heap.size wr rb tb (i - j) i (tabOf (L.drop j)) cur) ∧ Aside0 (Below w.heap.size w wr))
      case atStart => exact ⟨i, _, Nat.le_refl _, rfl, rfl, by rw [Nat.sub_self, ← hn, List.drop_length]; rw [hn]; exact HB, HBL⟩
      case round =>
        clear HB HBL
        obtain ⟨_, cur, hj, rfl, rfl, HB, HBL⟩ := hrel
        cases gk with
        | zero =>
          go_wp2
          go_ret
          have hBI := HB.out
          rw [List.drop_zero, Nat.sub_zero] at hBI
          first | exact ⟨rb, tb, cur, rfl, hBI, HBL.out⟩ | exact ⟨rb, rfl, ⟨tb, cur, hBI⟩, HBL.out⟩ | exact ⟨rb, rfl, tb, ⟨cur, hBI⟩, HBL.out⟩ | exact ⟨rb, rfl, tb, cur, hBI, HBL.out⟩
        | succ j =>
          obtain ⟨p, hp⟩ : ∃ p, p = L[j]'(by omega) := ⟨_, rfl⟩
          have hdrop : L.drop j = p :: L.drop (j + 1) := by rw [List.drop_eq_getElem_cons (by omega : j < L.length), hp]
          obtain ⟨h0, h1⟩ := HC.out j (by omega)
          rw [← hp] at h0 h1
          have hTn : tabOf (L.drop (j + 1)) p.1.toNat = none := tabOf_none _ _ (by
            have h := HND.out
            have e := congrArg (List.map (·.1)) (List.take_append_drop j L)
            rw [hdrop, List.map_append, List.map_cons] at e
            rw [← e] at h
            have h2 := (List.nodup_append.1 h).2.1
            exact (List.nodup_cons.1 h2).1)
          have HTS : Aside0 (tabOf (L.drop j) = fun c => if c = p.1.toNat then some p.2.data.toList else tabOf (L.drop (j + 1)) c) := ⟨by rw [hdrop]; rfl⟩
          obtain ⟨x, hx⟩ : ∃ x, x = 2 * j := ⟨_, rfl⟩
          obtain ⟨y, hy⟩ : ∃ y, y = x + 1 := ⟨_, rfl⟩
          rw [show 2 * j + 1 = y by omega] at h1
          rw [← hx] at h0
          have hob := HOB.out
          replace h0 := Lib.Below.cellOf HBL.out h0 (Nat.le_refl _)
          replace h1 := Lib.Below.cellOf HBL.out h1 (Nat.le_refl _)
          have ex : 2 * ((j + 1 : Nat) : Int) - 2 = (x : Int) := by omega
          rw [ex]
          have HX2 := Aside0.mk hx
          have hxm : (x : Int) < (m : Int) := by have := HM.out; omega
          have hxy : (x : Int) + 1 = (y : Int) := by omega
          have hym : (y : Int) < (m : Int) := by have := HM.out; omega
          have hwy : wrap64 (y : Int) = (y : Int) := by have := HM.out; unfold wrap64; omega
          obtain ⟨c, hc⟩ : ∃ c, c = p.1.toNat := ⟨_, rfl⟩
          have hc256 : c < 256 := by rw [hc]; exact p.1.toNat_lt
          have hci : (c : Int) < 256 := by omega
          obtain ⟨old, hold⟩ : ∃ old : ByteArray, old = ⟨#[p.1]⟩ := ⟨_, rfl⟩
          rw [← hold] at h0
          have hos : (0 : Int) < (old.size : Int) := by rw [hold]; show (0 : Int) < ((1 : Nat) : Int); omega
          have hoc : ∀ h : 0 < old.size, (old[0]'h).toNat = c := fun h => by subst hold; exact hc.symm
          have HOLD := Aside0.mk hold
          have HCC := Aside0.mk hc
          obtain ⟨b, hb⟩ : ∃ b, b = p.2 := ⟨_, rfl⟩
          rw [← hb] at h1
          have HBB := Aside0.mk hb
          rw [← hc] at hTn
          have h2 := (blk_cell HB.out.hr c).trans (HB.out.no c hc256 hTn)
          have h3 := (blk_cell HB.out.hr 256).trans HB.out.hlast
          obtain ⟨tcur, tt, ht1, ht2⟩ := HB.out.ht
          have HT1 := Aside0.mk ht1
          have HT2 := Aside0.mk ht2
          have hbk : b.size ≤ 1000 := by rw [hb]; exact HSZ.out p (by rw [hp]; exact List.getElem_mem _)
          clear ht1 ht2 hp hdrop hx hy ex hold hc hb hTn hob
          go_wp2_with (first
            | ((with_reducible refine gate_dst (N := 121) rfl ?_); refine Lb.alloc_event ?hg (v := fun g => .slice (some ⟨g, 0, none⟩) 1 1) (cs := #[.int .u8 (c : Int)]) (t := 5) (fr := (0, 0)) ?hr ?_; (case hg => rfl); (case hr => first | (go_simp; done) | (go_simp; rfl)); intro g1 hg1 w1 hbox1 hb1; have HW1 := Aside0.mk hb1; have hcv : (convert 83 9 (.slice (some ⟨g1, 0, none⟩) 1 1)).run Tryd.prog w1 = .ok (.string old) w1 := one_back w1 g1 p.1 old HOLD.out (by rw [← HCC.out]; exact hbox1); clear hbox1 hb1 hg1; clear h1 h2 h3 h0; have HB1 := Aside0.mk (HB.out.step HW1.out); have h3 := (blk_cell HB1.out.hr 256).trans HB1.out.hlast)
            | ((with_reducible refine gate_dst (N := 123) rfl ?_); refine Lb.alloc_event ?hg (v := fun g => .slice (some ⟨g, 0, none⟩) 1 1) (cs := #[.string old]) (t := 9) (fr := (0, 0)) ?hr ?_; (case hg => rfl); (case hr => first | (go_simp; done) | (go_simp; rfl)); intro g2 hg2 w2 hbox2 hb2; have HW2 := Aside0.mk hb2; have HX2' := Aside0.mk hbox2; clear hbox2 hb2 hg2; clear h3 hcv; have HB2 := Aside0.mk (HB1.out.step HW2.out); have h3 := (blk_cell HB2.out.hr 256).trans HB2.out.hlast)
            | ((with_reducible refine gate_dst (N := 124) rfl ?_); refine Lb.append_one_room rfl (.tmp 119) (.tmp 123) 34 rfl 9 Tryd.underlying34 (by kernel_rfl) rfl rfl ((blk_cell HX2'.out 0).trans rfl) rfl (by omega) (Lb.blk_below (Lb.blk_below HT1.out HW1.out) HW2.out) (by rw [HT2.out]; omega) ?_; intro w3 hb3 hg3; have HG3 := Aside0.mk hg3; have HB3 := Aside0.mk (HB2.out.appended (by rw [Array.size_setIfInBounds]; exact HT2.out) hb3 hg3); clear h3 hb3 hg3)
            | ((with_reducible refine gate_store (t := 34) (p := 125) rfl ?_); refine Lb.store_one rfl rfl 34 (.tmp 125) (.tmp 124) rfl rfl rfl rfl rfl HB3.out.hr (by kernel_rfl) (by rw [HB3.out.hsize]; omega) ?_; intro w4 hb4 hg4; have HG4 := Aside0.mk hg4; have HB4 := Aside0.mk (HB3.out.counted hb4 hg4); clear hb4 hg4)
            | ((with_reducible refine gate_dst (N := 128) rfl ?_); refine Lb.bytes_event rfl 9 83 5 b (.tmp 127) rfl rfl Tryd.underlying9 Tryd.underlying83 Tryd.underlying5 ?_; intro g5 cap row fr w5 hg5 hx5 hrow hb5; have HW5 := Aside0.mk hb5; have HX5 := Aside0.mk hx5; have HROW := Aside0.mk hrow; have HG5 := Aside0.mk hg5; have HB5 := Aside0.mk (HB4.out.step HW5.out); clear hg5 hx5 hrow hb5)
            | ((with_reducible refine gate_store (t := 83) (p := 130) rfl ?_); refine Lb.store_one rfl rfl 83 (.tmp 130) (.tmp 128) rfl rfl rfl rfl rfl HB5.out.hr (by kernel_rfl) (by rw [HB5.out.hsize]; omega) ?_; intro w6 hb6 hg6; have HG6 := Aside0.mk hg6; have HX6 := Aside0.mk hb6; clear hb6 hg6))
          have hX6 := HX6.out
          have hgr : g5 ≠ rb := by have := blk_lt HB4.out.hr; have := HG5.out; omega
          have hgt : g5 ≠ tb := by obtain ⟨_, _, ht, _⟩ := HB4.out.ht; have := blk_lt ht; have := HG5.out; omega
          have hge : w.heap.size ≤ g5 := by have := blk_lt HB4.out.hr; have := HG5.out; have := HB4.out.geR; omega
          have hBI := HB5.out.stored c cap g5 b.size hc256 b.data.toList (size_eq b) row _ fr HX5.out HROW.out hge hgr hgt hX6 HG6.out
          rw [HBB.out, HCC.out, ← HTS.out, show i - (j + 1) + 1 = i - j by omega] at hBI
          have b1 := below_step (below_step HBL.out HW1.out) HW2.out
          have b2 := Lb.grown_below b1 HG3.out b1.size HB2.out.geT
          have b3 := Lb.grown_below b2 HG4.out b2.size HB3.out.geR
          have b4 := below_step b3 HW5.out
          have b5 := Lb.grown_below b4 HG6.out b4.size HB5.out.geR
          have HBI := Aside0.mk hBI
          have HBL6 := Aside0.mk b5
          clear hX6 hBI b1 b2 b3 b4 b5
          go_roundg j
          case measure => omega
          case rel => exact ⟨j, _, by omega, rfl, by first | rfl | (congr 1; have := HX2.out; unfold wrap64; omega), HBI, HBL6⟩
end Go.Proofs.YtgfljlbecafipaaDoor.Rb
