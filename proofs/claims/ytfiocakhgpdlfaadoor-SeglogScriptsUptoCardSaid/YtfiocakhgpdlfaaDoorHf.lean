/- The records that a checkpoint tells. The records behind a checkpoint. -/
import Derived.Test.YtfiocakhgpdlfaaDoorHm
import Derived.Deep.QuietTactic
import Derived.BigQuiet
namespace Go.Proofs.YtfiocakhgpdlfaaDoor.Sg
open Go.RowKit Go.Lib Go.Proofs.YtfiocakhgpdlfaaDoor.Ap Go.Proofs.YtfiocakhgpdlfaaDoorW.PrintWords Go.Proofs.YtfiocakhgpdlfaaDoorW.PrintLast Go.Proofs.YtfiocakhgpdlfaaDoorW.PrintMore
set_option linter.unusedVariables false
set_option linter.unusedSimpArgs false

def flatR : List Rec → List Value
  | [] => []
  | x :: r => .int .i64 x.seq :: .int .i64 x.seg :: .string (toB x.body) :: flatR r
theorem flatR_length : ∀ l : List Rec, (flatR l).length = l.length * 3
  | [] => rfl
  | x :: r => by simp only [flatR, List.length_cons, flatR_length r]; omega
theorem flatR_app (a b : List Rec) : flatR (a ++ b) = flatR a ++ flatR b := by
  induction a with
  | nil => rfl
  | cons x r ih => simp [flatR, ih]
theorem flatR_at : ∀ (l : List Rec) (i : Nat) (x : Rec), l[i]? = some x → (flatR l)[i * 3]? = some (.int .i64 x.seq) ∧ (flatR l)[i * 3 + 1]? = some (.int .i64 x.seg) ∧ (flatR l)[i * 3 + 2]? = some (.string (toB x.body))
  | [], i, _, h => by simp at h
  | y :: r, 0, x, h => by
    simp at h
    subst h
    exact ⟨rfl, rfl, rfl⟩
  | y :: r, i + 1, x, h => by
    have ih := flatR_at r i x (by simpa using h)
    have e1 : (i + 1) * 3 = i * 3 + 1 + 1 + 1 := by omega
    rw [e1]
    exact ih
/-- a slice of records, a row of the call's own -/
abbrev RecsAt (B : Nat) (w : World) (v : Value) (l : List Rec) : Prop := w.ownsRow B 34 3 v l.length (flatR l)
theorem RecsAt.step {B : Nat} {w w' : World} {v : Value} {l : List Rec} (h : RecsAt B w v l) (hb : Below w.heap.size w w') : RecsAt B w' v l := own_keep h (fun k cs f hr => Lb.blk_below hr hb)
theorem RecsAt.at {B : Nat} {w : World} {v : Value} {l : List Rec} (h : RecsAt B w v l) (i : Nat) (x : Rec) (hx : l[i]? = some x) : ∃ k cap, v = .slice (some ⟨k, 0, none⟩) l.length cap ∧ B ≤ k ∧ w.cell? ⟨k, i * 3, none⟩ = some (.int .i64 x.seq) ∧ w.cell? ⟨k, i * 3 + 1, none⟩ = some (.int .i64 x.seg) ∧ w.cell? ⟨k, i * 3 + 2, none⟩ = some (.string (toB x.body)) := by
  have hi := (List.getElem?_eq_some_iff.1 hx).1
  obtain ⟨k, cap, row, e, _, hB, hr, hc⟩ := row_at h (by omega)
  obtain ⟨f1, f2, f3⟩ := flatR_at l i x hx
  exact ⟨k, cap, e, hB, (blk_cell hr _).trans (hc _ _ f1), (blk_cell hr _).trans (hc _ _ f2), (blk_cell hr _).trans (hc _ _ f3)⟩
theorem rec_info : ((Tryd.prog).info? 34).map (fun i => (i.zero, i.size, i.bytes)) = some (some (.agg #[.int .i64 0, .int .i64 0, .string ⟨#[]⟩]), 3, 32) := by kernel_rfl

theorem record_some (B gl gd : Nat) (d : Dk) (id a e : Nat) (p : Part) (b : List UInt8) (w : World) (hD : DAt B w gd d) (hoff : d.off = false) (hcell : w.cell? ⟨gl, 4, none⟩ = some (.pointer (some ⟨gd, 0, none⟩))) (he : e ≤ 16) (ha : a ≤ 16) (hid : 2 + id * 16 + 16 ≤ d.now.length)
    (hr : recOf (segOf d.now id) a e = some (p, b)) :
    Calls Tryd.prog 61 #[.pointer (some ⟨gl, 0, none⟩), .int .i64 id, .int .i64 a, .int .i64 e] w fun e' w' => e' = .returned (.tuple #[.agg #[.int .i64 p.seq, .int .i64 id, .string (toB b)], .int .i64 p.of, .int .i64 p.boot, .int .i64 0]) ∧ Below w.heap.size w w' := by
  have h := record_calls B gl gd d id a e w hD hoff hcell he ha hid
  rw [hr] at h; exact h
theorem knownSeg_inv {sec : Nat → List UInt8} {seq id used f a : Nat} {out o : List Rec} (h : knownSeg sec seq id used (f + 1) a out = some o) (ha : a < used) :
    ∃ p b, recOf sec a used = some (p, b) ∧ p.seq < seq ∧ (∀ r, out.getLast? = some r → r.seq < p.seq) ∧ knownSeg sec seq id used f (a + p.of) (out ++ [⟨p.seq, id, b⟩]) = some o ∧ 1 ≤ p.of ∧ a + p.of ≤ used ∧ p.seq ≤ top := by
  rw [knownSeg, if_neg (by omega)] at h
  cases hr : recOf sec a used with
  | none => rw [hr] at h; cases h
  | some pb =>
    obtain ⟨p, b⟩ := pb
    rw [hr] at h
    simp only at h
    split at h
    · cases h
    · rename_i hn
      obtain ⟨g1, g2, g3, g4⟩ := recOf_some hr
      refine ⟨p, b, rfl, ?_, fun r hl => ?_, h, g1.le.1, g2, g3⟩
      · exact Nat.lt_of_not_le fun hle => hn (.inl hle)
      · refine Nat.lt_of_not_le fun hle => hn (.inr ?_)
        rw [hl]; simpa using hle
theorem knownSeg_end {sec : Nat → List UInt8} {seq id used f a : Nat} {out o : List Rec} (h : knownSeg sec seq id used f a out = some o) (ha : used ≤ a) : out = o := by
  cases f with
  | zero => rw [knownSeg] at h; injection h
  | succ f => rw [knownSeg, if_pos ha] at h; injection h

theorem App.recs {w0 w' : World} {B : Nat} {v' : Value} {out : List Rec} {x : Rec} (ha : App w0 w' B 34 3 v' (out.length + 1) (flatR out ++ [.int .i64 x.seq, .int .i64 x.seg, .string (toB x.body)])) : RecsAt B w' v' (out ++ [x]) := by
  have h := ha.own
  have e : flatR (out ++ [x]) = flatR out ++ [.int .i64 x.seq, .int .i64 x.seg, .string (toB x.body)] := by rw [flatR_app]; rfl
  show w'.ownsRow B _ 3 v' (out ++ [x]).length (flatR (out ++ [x]))
  rw [e, List.length_append]
  exact h
theorem bel_drewN (w : World) (n : Nat) : Below w.heap.size w (w.drewN n) := ⟨rfl, rfl, rfl, Nat.le_refl _, fun _ _ => rfl⟩

/-- what is known while records are read -/
structure KF (B : Nat) (w0 w : World) (v : Value) (out : List Rec) : Prop where
  bel : Below w0.heap.size w0 w
  recs : RecsAt w0.heap.size w v out

set_option maxRecDepth 100000 in
set_option maxHeartbeats 8000000 in
theorem known_calls (B gl gd : Nat) (d : Dk) (l : Lg) (vS : Value) (all : List Rec) (w : World) (hl : LRaw B w gl gd l vS) (hd : DAt B w gd d) (hoff : d.off = false) (hn : l.cp.segs.length ≤ 64) (hid : ∀ s ∈ l.cp.segs, 2 + s.id * 16 + 16 ≤ d.now.length ∧ s.used ≤ 16) (hseq : l.cp.seq ≤ top)
    (hk : known d.now l.cp.seq l.cp.segs [] = some all) (hall : all.length ≤ 100000) :
    Calls Tryd.prog 36 #[.pointer (some ⟨gl, 0, none⟩)] w fun e w' => ∃ v, e = .returned (.tuple #[v, .int .i64 0]) ∧ RecsAt w.heap.size w' v all ∧ Below w.heap.size w w' := by
  obtain ⟨A, cS, rfl, hcS⟩ := own_slice hl.segs
  have HL := Aside0.mk hl
  have HD := Aside0.mk hd
  have HID := Aside0.mk hid
  have HOFF := Aside0.mk hoff
  have HKN := Aside0.mk hk
  have HALL := Aside0.mk hall
  have HSEQ := Aside0.mk hseq
  obtain ⟨-, -, -, c3, -, -⟩ := hl.cells
  have hlen := hd.ok.le
  clear hl hd hid hoff hk hall hseq
  go_enter Tryd.func36, Tryd.ntmps36
  go_wp2_with fail
  go_loopg [4, 18] l.cp.segs.length (fun gk s4 s18 wr => ∃ (i : Nat) (v : Value) (out : List Rec), i + gk = l.cp.segs.length ∧ s18 = .int .i64 i ∧ v = s4 ∧ Aside0 (KF B w wr v out) ∧ Aside0 (known d.now l.cp.seq (l.cp.segs.drop i) out = some all) ∧ Aside0 (out.length ≤ 16 * i))
  case atStart => exact ⟨0, .slice none 0 0, [], by omega, rfl, rfl, ⟨⟨Below.refl _ _, ⟨rfl, .inl ⟨rfl, rfl⟩⟩⟩⟩, HKN, ⟨by simp⟩⟩
  case round =>
    obtain ⟨i, v, out, hi, rfl, rfl, HK, HR, HOL0⟩ := hrel
    cases gk with
    | zero =>
      obtain rfl : i = l.cp.segs.length := by omega
      have hii : ¬ ((l.cp.segs.length : Int) < (l.cp.segs.length : Int)) := by omega
      have ho : out = all := by
        have := HR.out
        rw [List.drop_length, known] at this
        injection this
      subst ho
      go_wp2
      go_ret2
      exact ⟨_, rfl, HK.out.recs, HK.out.bel⟩
    | succ gk =>
      have hii : (i : Int) < (l.cp.segs.length : Int) := by omega
      have hlt : i < l.cp.segs.length := by omega
      obtain ⟨k, cap, hA, hBk, q0, q1⟩ := (HL.out.segs.step HK.out.bel).at i hlt
      injection hA with hA1 hA2 hA3
      subst hA1
      obtain ⟨s, hs⟩ : ∃ s, s = l.cp.segs[i]'hlt := ⟨_, rfl⟩
      rw [← hs] at q0 q1
      obtain ⟨o, ho1, ho2⟩ : ∃ o, knownSeg (segOf d.now s.id) l.cp.seq s.id s.used 17 0 out = some o ∧ known d.now l.cp.seq (l.cp.segs.drop (i + 1)) o = some all := by
        have := HR.out
        rw [List.drop_eq_getElem_cons hlt, known, ← hs] at this
        cases hks : knownSeg (segOf d.now s.id) l.cp.seq s.id s.used 17 0 out with
        | none => rw [hks] at this; cases this
        | some o => rw [hks] at this; exact ⟨o, rfl, this⟩
      have HO1 := Aside0.mk ho1
      have HO2 := Aside0.mk ho2
      have HSB := Aside0.mk (HID.out s (by rw [hs]; exact List.getElem_mem hlt))
      have hi64 : (i : Int) ≤ 64 := by omega
      clear hs ho1 ho2 hA2 hA3 HR c3
      go_wp2_with (first
        | ((with_reducible refine gate_dst (N := 6) rfl ?_); refine Lb.alloc_event ?hg (v := fun g => .pointer (some ⟨g, 0, none⟩)) (cs := #[.int .i64 0, .int .i64 0]) (t := 71) (fr := (0, 0)) ?hr ?_; (case hg => rfl); (case hr => first | (go_simp; done) | (go_simp; rfl)); intro g6 hg6 w7 hx hb; have HX := Aside0.mk hx; have HB7 := Aside0.mk hb; have HG6 := Aside0.mk hg6; clear hx hb hg6)
        | ((with_reducible refine gate_store (t := 71) (p := 6) rfl ?_); refine Lb.store_whole rfl rfl 71 (.tmp 6) (.tmp 21) rfl (new := #[.int .i64 s.id, .int .i64 s.used]) rfl rfl HX.out rfl (by kernel_rfl) (by simp [Value.oneCell']) ?_; intro w8 hb hg; have HX8 := Aside0.mk hb; have HB8 := Aside0.mk (Lb.grown_below HB7.out hg HB7.out.size (by have := HG6.out; omega)); have HK8 : Aside0 (KF B w w8 v out) := ⟨⟨below_step HK.out.bel HB8.out, HK.out.recs.step HB8.out⟩⟩; clear hb hg))
      obtain ⟨wo, hwo⟩ : ∃ wo, wo = w8 := ⟨_, rfl⟩
      obtain ⟨gko, hgko⟩ : ∃ gko, gko = gk := ⟨_, rfl⟩
      go_loopg [4, 7] 18 (fun gk s4 s7 wr2 => ∃ (a : Nat) (v2 : Value) (out2 : List Rec), s7 = .int .i64 a ∧ v2 = s4 ∧ Aside0 (KF B w wr2 v2 out2) ∧ Aside0 (wr2.heap[g6]? = some (.cells #[.int .i64 s.id, .int .i64 s.used] 71 (0, 0))) ∧ Aside0 (∃ f, f + 1 = gk ∧ knownSeg (segOf d.now s.id) l.cp.seq s.id s.used f a out2 = some o ∧ 17 ≤ a + f) ∧ Aside0 (out2.length ≤ out.length + a) ∧ Aside0 (a ≤ 16))
      case atStart => exact ⟨0, v, out, rfl, rfl, HK8, HX8, ⟨17, rfl, HO1.out, by omega⟩, ⟨by omega⟩, ⟨by omega⟩⟩
      case round =>
        obtain ⟨a, v2, out2, rfl, rfl, HK2, HX2, HF, HOL, HA16⟩ := hrel
        obtain ⟨f, hf, hks, haf⟩ := HF.out
        have q0 := (blk_cell HX2.out 0).trans rfl
        have q1 := (blk_cell HX2.out 1).trans rfl
        have ha16 := HA16.out
        by_cases hlt2 : a < s.used
        · have hi2 : (a : Int) < (s.used : Int) := by omega
          obtain ⟨f', rfl⟩ : ∃ f', f = f' + 1 := ⟨f - 1, by omega⟩
          subst hf
          obtain ⟨p, b, e1, e2, e3, e4, e5, e6, e7⟩ := knownSeg_inv hks hlt2
          have HE1 := Aside0.mk e1
          have HE4 := Aside0.mk e4
          have HE3 := Aside0.mk e3
          have hsu := HSB.out.2
          have hsp : 1 ≤ p.of ∧ p.of ≤ 16 := ⟨e5, by omega⟩
          have g1 : ¬ ((p.of : Int) = 0) := by omega
          have g2n : ¬ (l.cp.seq ≤ p.seq) := by omega
          have g1b : ((p.of : Int) == 0) = false := by simpa using g1
          have g2 : ¬ ((l.cp.seq : Int) ≤ (p.seq : Int)) := by omega
          have HSM := Aside0.mk haf
          clear hks e1 e2 e3 e4 HF haf
          go_wp2_with (first
            | (go_at_call 61; (with_reducible refine (record_some B gl gd d s.id a s.used p b _ (HD.out.step HK2.out.bel) HOFF.out (HL.out.step HK2.out.bel).cells.2.2.2.2.1 (by omega) (by omega) HSB.out.1 HE1.out).mono ?_); rintro e w5 ⟨rfl, hb⟩; have HK5 : Aside0 (KF B w w5 v2 out2) := ⟨⟨below_step HK2.out.bel hb, HK2.out.recs.step hb⟩⟩; have HX5 := Aside0.mk (Lb.blk_below HX2.out hb); clear hb q0 q1)
            | ((with_reducible refine gate_dst (N := 8) rfl ?_); refine Lb.alloc_event ?hg (v := fun g => .pointer (some ⟨g, 0, none⟩)) (cs := #[.int .i64 0, .int .i64 0, .string ⟨#[]⟩]) (t := 34) (fr := (0, 0)) ?hr ?_; (case hg => rfl); (case hr => first | (go_simp; done) | (go_simp; rfl)); intro g8 hg8 w7 hx hb; have HX7 := Aside0.mk hx; have HB7 := Aside0.mk hb; have HG8 := Aside0.mk hg8; clear hx hb hg8)
            | ((with_reducible refine gate_store (t := 34) (p := 8) rfl ?_); refine Lb.store_whole rfl rfl 34 (.tmp 8) (.tmp 34) rfl (new := #[.int .i64 p.seq, .int .i64 s.id, .string (toB b)]) rfl rfl HX7.out rfl (by kernel_rfl) (by simp [Value.oneCell']) ?_; intro w9 hb hg; have HX9 := Aside0.mk hb; have HB9 := Aside0.mk (Lb.grown_below HB7.out hg HB7.out.size (by have := HG8.out; omega)); clear hb hg))
          have HK9 : Aside0 (KF B w w9 v2 out2) := ⟨⟨below_step HK5.out.bel HB9.out, HK5.out.recs.step HB9.out⟩⟩
          have d0 := (blk_cell HX9.out 0).trans rfl
          have c2 := (HL.out.step HK9.out.bel).cells.2.2.1
          have HLEN : Aside0 (out2.length + 1 ≤ 1000000000) := ⟨by have := HOL.out; have := HOL0.out; omega⟩
          have HOL2 : Aside0 (out2.length + 1 ≤ out.length + (a + p.of)) := ⟨by have := HOL.out; omega⟩
          by_cases hnil : out2 = []
          · subst hnil
            obtain ⟨A2, c4, rfl, -⟩ := own_slice HK9.out.recs
            have hl0 : ([] : List Rec).length = 0 := rfl
            rw [hl0]
            go_wp2
            go_quiet (fail)
            have HK10 : Aside0 (KF B w (w9.drewN nq) _ _) := ⟨⟨below_step HK9.out.bel (bel_drewN _ _), HK9.out.recs.step (bel_drewN _ _)⟩⟩
            have HX10 := Aside0.mk (Lb.blk_below HX9.out (bel_drewN _ nq))
            have HS10 := Aside0.mk (Lb.blk_below (Lb.blk_below HX5.out HB9.out) (bel_drewN _ nq))
            have d0 := (blk_cell HX10.out 0).trans rfl
            have d1 := (blk_cell HX10.out 1).trans rfl
            have d2 := (blk_cell HX10.out 2).trans rfl
            go_wp2_with (first
              | ((with_reducible refine gate_dst (N := 72) rfl ?_); refine Lb.alloc_event ?hg (v := fun g => .slice (some ⟨g, 0, none⟩) 1 1) (cs := #[.int .i64 p.seq, .int .i64 s.id, .string (toB b)]) (t := 34) (fr := (0, 0)) ?hr ?_; (case hg => rfl); (case hr => first | (go_simp; done) | (go_simp; rfl)); intro g3 hg3 w3 hx hb; have HNB : Aside0 (NewBlk (w9.drewN nq) w3 g3 #[.int .i64 p.seq, .int .i64 s.id, .string (toB b)] 34) := ⟨⟨hx, hb⟩⟩; clear hx hb hg3)
              | (at_builtin; refine app_event (w0 := w9.drewN nq) rfl (.tmp 70) (.tmp 72) 30 34 _ 3 32 rfl Tryd.underlying30 rec_info rfl (by decide) (by decide) (B := w.heap.size) (n := _) (m := 1) (v := _) (xs := _) (news := [.int .i64 p.seq, .int .i64 s.id, .string (toB b)]) rfl HK10.out.recs HNB.out rfl rfl (by simp [Value.oneCell']) HK10.out.bel.size HLEN.out ?_; intro v' w4 ha; have HA := Aside0.mk ha; clear ha d0 d1 d2))
            go_roundg (f' + 1)
            case measure => omega
            case rel => exact ⟨a + p.of, v', _, by first | rfl | (congr 1; unfold wrap64; omega) | (congr 1; push_cast; rfl), rfl, ⟨⟨HK10.out.bel.trans HA.out.bel, App.recs (x := ⟨p.seq, s.id, b⟩) HA.out⟩⟩, ⟨HA.out.keep _ _ _ _ (by decide) HS10.out⟩, ⟨f', rfl, HE4.out, by have := HSM.out; omega⟩, ⟨by rw [List.length_append]; exact HOL2.out⟩, ⟨by omega⟩⟩
          · obtain ⟨pre, r, rfl⟩ : ∃ pre r, out2 = pre ++ [r] := ⟨out2.dropLast, out2.getLast hnil, (List.dropLast_concat_getLast hnil).symm⟩
            obtain ⟨k2, c4, rfl, hk2, z0, z1, z2⟩ := HK9.out.recs.at pre.length r (by simp)
            have g3 : ¬ ((p.seq : Int) ≤ (r.seq : Int)) := by have := HE3.out r (by simp); omega
            have g3n : ¬ (p.seq ≤ r.seq) := by omega
            have hpl : (pre ++ [r]).length = pre.length + 1 := by simp
            rw [hpl]
            obtain ⟨m, hm⟩ : ∃ m, m = pre.length := ⟨_, rfl⟩
            rw [← hm] at z0 hpl ⊢
            have hm2 : (m : Int) ≤ 999999999 := by have := HLEN.out; rw [hpl] at this; omega
            have HPL := Aside0.mk hpl
            rw [hpl] at HK9
            have HM := Aside0.mk hm
            clear z1 z2 hpl hm
            go_wp2
            go_quiet (fail)
            clear z0 g3 g3n hm2
            have HK10 : Aside0 (KF B w (w9.drewN nq) _ _) := ⟨⟨below_step HK9.out.bel (bel_drewN _ _), HK9.out.recs.step (bel_drewN _ _)⟩⟩
            have HX10 := Aside0.mk (Lb.blk_below HX9.out (bel_drewN _ nq))
            have HS10 := Aside0.mk (Lb.blk_below (Lb.blk_below HX5.out HB9.out) (bel_drewN _ nq))
            have d0 := (blk_cell HX10.out 0).trans rfl
            have d1 := (blk_cell HX10.out 1).trans rfl
            have d2 := (blk_cell HX10.out 2).trans rfl
            go_wp2_with (first
              | ((with_reducible refine gate_dst (N := 72) rfl ?_); refine Lb.alloc_event ?hg (v := fun g => .slice (some ⟨g, 0, none⟩) 1 1) (cs := #[.int .i64 p.seq, .int .i64 s.id, .string (toB b)]) (t := 34) (fr := (0, 0)) ?hr ?_; (case hg => rfl); (case hr => first | (go_simp; done) | (go_simp; rfl)); intro g3 hg3 w3 hx hb; have HNB : Aside0 (NewBlk (w9.drewN nq) w3 g3 #[.int .i64 p.seq, .int .i64 s.id, .string (toB b)] 34) := ⟨⟨hx, hb⟩⟩; clear hx hb hg3)
              | (at_builtin; refine app_event (w0 := w9.drewN nq) rfl (.tmp 70) (.tmp 72) 30 34 _ 3 32 rfl Tryd.underlying30 rec_info rfl (by decide) (by decide) (B := w.heap.size) (n := _) (m := 1) (v := _) (xs := _) (news := [.int .i64 p.seq, .int .i64 s.id, .string (toB b)]) rfl HK10.out.recs HNB.out rfl rfl (by simp [Value.oneCell']) HK10.out.bel.size HLEN.out ?_; intro v' w4 ha; have HA := Aside0.mk ha; clear ha d0 d1 d2))
            go_roundg (f' + 1)
            case measure => omega
            case rel => exact ⟨a + p.of, v', _, by first | rfl | (congr 1; unfold wrap64; omega) | (congr 1; push_cast; rfl), rfl, ⟨⟨HK10.out.bel.trans HA.out.bel, App.recs (x := ⟨p.seq, s.id, b⟩) HA.out⟩⟩, ⟨HA.out.keep _ _ _ _ (by decide) HS10.out⟩, ⟨f', rfl, HE4.out, by have := HSM.out; omega⟩, ⟨by rw [List.length_append]; exact HOL2.out⟩, ⟨by omega⟩⟩
        · have hi2 : ¬ ((a : Int) < (s.used : Int)) := by omega
          have ho := knownSeg_end hks (by omega)
          have HOO : Aside0 (out2 = o) := ⟨ho⟩
          clear ho hks
          go_wp2
          go_roundg gko
          case measure => omega
          case rel => exact ⟨i + 1, v2, out2, by omega, by first | rfl | (congr 1; unfold wrap64; omega), rfl, HK2, ⟨by rw [HOO.out]; exact HO2.out⟩, ⟨by have := HOL.out; have := HOL0.out; omega⟩⟩
end Go.Proofs.YtfiocakhgpdlfaaDoor.Sg

namespace Go.Proofs.YtfiocakhgpdlfaaDoor.Sg
open Go.RowKit Go.Lib Go.Proofs.YtfiocakhgpdlfaaDoor.Ap Go.Proofs.YtfiocakhgpdlfaaDoorW.PrintWords Go.Proofs.YtfiocakhgpdlfaaDoorW.PrintLast Go.Proofs.YtfiocakhgpdlfaaDoorW.PrintMore
set_option linter.unusedVariables false
set_option linter.unusedSimpArgs false

/-- the used part of the last segment is stored -/
theorem SegsAt.setUsed {B : Nat} {w : World} {k n cap : Nat} {pre : List Seg} {id u u' : Nat} (h : SegsAt B w (.slice (some ⟨k, 0, none⟩) n cap) (pre ++ [⟨id, u⟩])) :
    ∃ row : Array Value, w.heap[k]? = some (.cells row 71 (0, 0)) ∧ pre.length * 2 + 1 < row.size ∧ n = pre.length + 1 ∧ B ≤ k ∧ ∀ w' : World, w'.heap[k]? = some (.cells (row.setIfInBounds (pre.length * 2 + 1) (.int .i64 u')) 71 (0, 0)) → SegsAt B w' (.slice (some ⟨k, 0, none⟩) n cap) (pre ++ [⟨id, u'⟩]) := by
  obtain ⟨h1, h2⟩ := h
  rcases h2 with ⟨h2, _⟩ | ⟨g, cap', cur, e, hB, hr, hn, hm, hs, ht⟩
  · cases h2
  · injection e with e1 e2 e3
    injection e1 with e1
    injection e1 with e1 _ _
    subst e1 e3
    have hl : (pre ++ [(⟨id, u⟩ : Seg)]).length = pre.length + 1 := by simp
    have hl' : (pre ++ [(⟨id, u'⟩ : Seg)]).length = pre.length + 1 := by simp
    rw [hl] at e2 hn ht
    refine ⟨cur, hr, by omega, e2, hB, fun w' hw => ⟨?_, .inr ⟨k, cap, _, ?_, hB, hw, ?_, hm, ?_, ?_⟩⟩⟩
    · rw [hl', flatS_length, hl']
    · rw [hl', e2]
    · rw [hl']; exact hn
    · rw [Array.size_setIfInBounds]; exact hs
    · rw [hl', Array.toList_setIfInBounds, List.take_set, ht]
      have ea : ∀ x : Nat, flatS (pre ++ [(⟨id, x⟩ : Seg)]) = flatS pre ++ [.int .i64 id, .int .i64 x] := fun x => by rw [flatS_app]; rfl
      rw [ea, ea, List.set_append, if_neg (by rw [flatS_length]; omega), flatS_length]
      have e9 : pre.length * 2 + 1 - pre.length * 2 = 1 := by omega
      rw [e9]; rfl

/-- what is known while the records behind the checkpoint are read -/
structure FU (BD B : Nat) (w0 w : World) (gl gd : Nat) (d : Dk) (l : Lg) (vS : Value) (pre : List Seg) (id used seq : Nat) (v : Value) (out : List Rec) : Prop where
  log : LRaw B w gl gd ⟨{ l.cp with seq := seq, segs := pre ++ [⟨id, used⟩] }, l.place⟩ vS
  recs : RecsAt B w v out
  dk : DAt BD w gd d
  bel : Below B w0 w
  le : B ≤ w.heap.size
theorem FU.step {BD B : Nat} {w0 w w' : World} {gl gd : Nat} {d : Dk} {l : Lg} {vS : Value} {pre : List Seg} {id used seq : Nat} {v : Value} {out : List Rec} (h : FU BD B w0 w gl gd d l vS pre id used seq v out) (hb : Below w.heap.size w w') : FU BD B w0 w' gl gd d l vS pre id used seq v out :=
  ⟨h.log.step hb, h.recs.step hb, h.dk.step hb, h.bel.trans (hb.mono h.le), Nat.le_trans h.le hb.size⟩
theorem DAt.keepT {B : Nat} {w w' : World} {g : Nat} {d : Dk} {t : TypeId} (h : DAt B w g d) (hk : ∀ (k : Nat) (cs : Array Value) (t' : TypeId) (f : Nat × Nat), t' ≠ t → w.heap[k]? = some (.cells cs t' f) → w'.heap[k]? = some (.cells cs t' f)) (h1 : 75 ≠ t) (h2 : 104 ≠ t) (h3 : 9 ≠ t) : DAt B w' g d := by
  obtain ⟨kL, kN, vQ, wr, fl, h⟩ := h
  exact ⟨kL, kN, vQ, wr, fl, h.keep fun k cs' t' f' ht hr => hk _ _ _ _ (by rcases ht with e | e | e <;> rw [e] <;> assumption) hr⟩
/-- a record is put behind -/
theorem FU.app {BD B : Nat} {w0 w w' : World} {gl gd : Nat} {d : Dk} {l : Lg} {vS : Value} {pre : List Seg} {id used seq : Nat} {v v' : Value} {out : List Rec} {x : Rec} (h : FU BD B w0 w gl gd d l vS pre id used seq v out)
    (ha : App w w' B 34 3 v' (out.length + 1) (flatR out ++ [.int .i64 x.seq, .int .i64 x.seg, .string (toB x.body)])) : FU BD B w0 w' gl gd d l vS pre id used seq v' (out ++ [x]) :=
  ⟨⟨ha.keep _ _ _ _ (by decide) h.log.blk, own_keep h.log.segs (fun k cs f hr => ha.keep _ _ _ _ (by decide) hr), h.log.ge⟩, App.recs ha, h.dk.keepT ha.keep (by decide) (by decide) (by decide), h.bel.trans ha.bel, Nat.le_trans h.le ha.size⟩
/-- the last segment has grown -/
theorem FU.used {BD B : Nat} {w0 w w' : World} {gl gd : Nat} {d : Dk} {l : Lg} {k n cap : Nat} {pre : List Seg} {id used used' seq : Nat} {v : Value} {out : List Rec} {row : Array Value} (h : FU BD B w0 w gl gd d l (.slice (some ⟨k, 0, none⟩) n cap) pre id used seq v out)
    (hr : w.heap[k]? = some (.cells row 71 (0, 0))) (hw : w'.heap[k]? = some (.cells (row.setIfInBounds (pre.length * 2 + 1) (.int .i64 used')) 71 (0, 0))) (hg : w.grownBy w' (some k)) : FU BD B w0 w' gl gd d l (.slice (some ⟨k, 0, none⟩) n cap) pre id used' seq v out := by
  have hk := types_blk hr hg
  obtain ⟨row', e1, e2, e3, e4, e5⟩ := h.log.segs.setUsed (u' := used')
  rw [hr] at e1
  injection e1 with e1
  injection e1 with e1 _ _
  subst e1
  exact ⟨⟨hk _ _ _ _ (by decide) h.log.blk, e5 _ hw, h.log.ge⟩, own_keep h.recs (fun k cs f hr => hk _ _ _ _ (by decide) hr), h.dk.keepT hk (by decide) (by decide) (by decide), h.bel.grown hg h.le (fun q hq => by injection hq with hq; omega), Nat.le_trans h.le hg.size⟩
/-- the next number has grown -/
theorem FU.seq {BD B : Nat} {w0 w w' : World} {gl gd : Nat} {d : Dk} {l : Lg} {vS : Value} {pre : List Seg} {id used seq seq' : Nat} {v : Value} {out : List Rec} (h : FU BD B w0 w gl gd d l vS pre id used seq v out)
    (hw : w'.heap[gl]? = some (.cells #[.int .i64 l.cp.serial, .int .i64 l.cp.boot, .int .i64 seq', vS, .pointer (some ⟨gd, 0, none⟩), .int .i64 l.place] 83 (0, 0))) (hg : w.grownBy w' (some gl)) : FU BD B w0 w' gl gd d l vS pre id used seq' v out := by
  have hk := types_blk h.log.blk hg
  exact ⟨⟨hw, own_keep h.log.segs (fun k cs f hr => hk _ _ _ _ (by decide) hr), h.log.ge⟩, own_keep h.recs (fun k cs f hr => hk _ _ _ _ (by decide) hr), h.dk.keepT hk (by decide) (by decide) (by decide), h.bel.grown hg h.le (fun q hq => by have := h.log.ge; injection hq with hq; omega), Nat.le_trans h.le hg.size⟩

end Go.Proofs.YtfiocakhgpdlfaaDoor.Sg
