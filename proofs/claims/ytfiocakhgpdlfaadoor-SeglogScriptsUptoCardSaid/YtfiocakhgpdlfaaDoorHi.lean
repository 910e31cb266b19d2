/- alike, without, body. Append, Drop and Open where the power may go off, as SeglogCrash asks of them. The acts and the cuts of a script, as they are read; what is known between two steps. -/
import Derived.Test.YtfiocakhgpdlfaaDoorHn
import Derived.Test.YtfiocakhgpdlfaaDoorPAx0
namespace Go.Proofs.YtfiocakhgpdlfaaDoor.Sg
open Go.RowKit Go.Lib Go.Proofs.YtfiocakhgpdlfaaDoor.Ap Go.Proofs.YtfiocakhgpdlfaaDoorW.PrintWords Go.Proofs.YtfiocakhgpdlfaaDoorW.PrintLast Go.Proofs.YtfiocakhgpdlfaaDoorW.PrintMore
set_option linter.unusedVariables false
set_option linter.unusedSimpArgs false

def alikeB : List Rec → List Rec → Bool
  | [], [] => true
  | x :: a, y :: b => (x.body == y.body && x.seq == y.seq) && alikeB a b
  | _, _ => false
theorem alikeB_len : ∀ {a b : List Rec}, a.length ≠ b.length → alikeB a b = false
  | [], [], h => absurd rfl h
  | [], y :: b, _ => rfl
  | x :: a, [], _ => rfl
  | x :: a, y :: b, h => by
    rw [alikeB, alikeB_len (a := a) (b := b) (fun e => h (by simp [e])), Bool.and_false]
theorem alikeB_refl : ∀ a : List Rec, alikeB a a = true
  | [] => rfl
  | x :: a => by rw [alikeB, alikeB_refl a]; simp
theorem alikeB_length {a b : List Rec} (h : alikeB a b = true) : a.length = b.length := by
  rcases Decidable.em (a.length = b.length) with h1 | h1
  · exact h1
  · rw [alikeB_len h1] at h; cases h

set_option maxRecDepth 100000 in
theorem alike_calls (B : Nat) (a b : List Rec) (va vb : Value) (w : World) (ha : RecsAt B w va a) (hb : RecsAt B w vb b) (hla : a.length ≤ 1000000000) :
    Calls Tryd.prog 22 #[va, vb] w fun e w' => e = .returned (.bool (alikeB a b)) ∧ Below w.heap.size w w' := by
  have HA := Aside0.mk ha
  have HB := Aside0.mk hb
  obtain ⟨Aa, ca, rfl, -⟩ := own_slice ha
  obtain ⟨Ab, cb, rfl, -⟩ := own_slice hb
  obtain ⟨na, hna⟩ : ∃ na, na = a.length := ⟨_, rfl⟩
  obtain ⟨nb, hnb⟩ : ∃ nb, nb = b.length := ⟨_, rfl⟩
  have HNA := Aside0.mk hna
  have HNB := Aside0.mk hnb
  have hlaI : (na : Int) ≤ 1000000000 := by omega
  rw [← hna, ← hnb]
  clear ha hb hna hnb hla
  by_cases hl : na = nb
  · subst hl
    go_enter Tryd.func22, Tryd.ntmps22
    go_wp2_with fail
    go_loopg [5] na (fun gk s5 wr => ∃ i : Nat, i + gk = na ∧ s5 = .int .i64 i ∧ Aside0 (alikeB (a.drop i) (b.drop i) = alikeB a b) ∧ Aside0 (Below w.heap.size w wr))
    case atStart => exact ⟨0, by omega, rfl, ⟨rfl⟩, ⟨Below.refl _ _⟩⟩
    case round =>
      obtain ⟨i, hi, rfl, HR, HW⟩ := hrel
      cases gk with
      | zero =>
        obtain rfl : i = na := by omega
        have hii : ¬ ((i : Int) < (i : Int)) := by omega
        have HRV : Aside0 (alikeB a b = true) := ⟨by have h := HR.out; rw [List.drop_of_length_le (by have := HNA.out; omega), List.drop_of_length_le (by have := HNB.out; omega)] at h; exact h.symm⟩
        go_wp2
        go_ret
        exact ⟨by rw [HRV.out]; rfl, HW.out⟩
      | succ gk =>
        have hii : (i : Int) < (na : Int) := by omega
        have hlt : i < a.length := by have := HNA.out; omega
        have hlt2 : i < b.length := by have := HNB.out; omega
        obtain ⟨⟨xs, xg, xb⟩, hx⟩ : ∃ x, x = a[i]'hlt := ⟨_, rfl⟩
        obtain ⟨⟨ys, yg, yb⟩, hy⟩ : ∃ x, x = b[i]'hlt2 := ⟨_, rfl⟩
        obtain ⟨k, c1, hA, _, p0, _, p2⟩ := (RecsAt.step HA.out HW.out).at i _ (by rw [List.getElem?_eq_getElem hlt, ← hx])
        injection hA with hA1 hA2 hA3
        subst hA1
        obtain ⟨k', c2, hA', _, q0, _, q2⟩ := (RecsAt.step HB.out HW.out).at i _ (by rw [List.getElem?_eq_getElem hlt2, ← hy])
        injection hA' with hB1 hB2 hB3
        subst hB1
        simp only at p0 p2 q0 q2
        have hst : alikeB a b = ((xb == yb && xs == ys) && alikeB (a.drop (i + 1)) (b.drop (i + 1))) := by
          have h := HR.out
          rw [List.drop_eq_getElem_cons hlt, List.drop_eq_getElem_cons hlt2, ← hx, ← hy, alikeB] at h
          exact h.symm
        have HST := Aside0.mk hst
        have HI := Aside0.mk hi
        clear hst hi hx hy hlt hlt2 hA2 hA3 hB2 hB3
        by_cases hb : xb = yb
        · subst hb
          by_cases hs : xs = ys
          · subst hs
            go_wp2_with fail
            go_quiet (fail)
            go_wp2_with fail
            go_roundg gk
            case measure => omega
            case rel => exact ⟨i + 1, by have := HI.out; omega, by go_num, ⟨by rw [HST.out]; simp⟩, ⟨below_step HW.out (bel_drewN _ _)⟩⟩
          · have hsI : ¬ ((xs : Int) = (ys : Int)) := by omega
            have hs2 : ((xs : Int) == (ys : Int)) = false := by simpa using hsI
            have hs3 : (xs == ys) = false := by simpa using hs
            have HRV : Aside0 (alikeB a b = false) := ⟨by rw [HST.out, hs3]; simp⟩
            go_wp2_with fail
            go_quiet (fail)
            go_wp2_with fail
            go_ret
            exact ⟨by rw [HRV.out]; rfl, below_step HW.out (bel_drewN _ _)⟩
        · have hb2 : (xb == yb) = false := by simpa using hb
          have hb3 : ((toB xb).toList == (toB yb).toList) = false := by rw [toB_list, toB_list]; exact hb2
          have hb4 : ((toB xb).toList != (toB yb).toList) = true := by rw [toB_list, toB_list]; simpa using hb
          have HRV : Aside0 (alikeB a b = false) := ⟨by rw [HST.out, hb2]; simp⟩
          go_wp2_with fail
          go_quiet (fail)
          go_wp2_with fail
          go_ret
          exact ⟨by rw [HRV.out]; rfl, below_step HW.out (bel_drewN _ _)⟩
  · have HRV : Aside0 (alikeB a b = false) := ⟨alikeB_len (by rw [← HNA.out, ← HNB.out]; exact hl)⟩
    have hlI : ¬ ((na : Int) = (nb : Int)) := by omega
    have hlB : ((na : Int) == (nb : Int)) = false := by simpa using hlI
    have hlC : (na == nb) = false := by simpa using hl
    clear hl
    go_enter Tryd.func22, Tryd.ntmps22
    go_wp2_with fail
    go_ret
    exact ⟨by rw [HRV.out]; rfl, Below.refl _ _⟩

def withoutI (a : List Rec) (id : Int) : List Rec := a.filter fun r => !((r.seg : Int) == id)
theorem withoutI_nat (a : List Rec) (id : Int) (h : 0 ≤ id) : withoutI a id = without a id.toNat := by
  unfold withoutI without
  congr 1
  funext r
  rw [Bool.eq_iff_iff]
  simp
  omega
theorem withoutI_take (a : List Rec) (id : Int) (i : Nat) (x : Rec) (hx : a[i]? = some x) : withoutI (a.take (i + 1)) id = if (x.seg : Int) = id then withoutI (a.take i) id else withoutI (a.take i) id ++ [x] := by
  obtain ⟨hlt, rfl⟩ := List.getElem?_eq_some_iff.1 hx
  rw [List.take_succ_eq_append_getElem hlt]
  unfold withoutI
  rw [List.filter_append]
  by_cases h : ((a[i]).seg : Int) = id
  · rw [if_pos h]; simp [h]
  · rw [if_neg h]; simp [h]

set_option maxRecDepth 100000 in
theorem without_calls (B : Nat) (a : List Rec) (va : Value) (id : Int) (w : World) (ha : RecsAt B w va a) (hla : a.length ≤ 10000000) :
    Calls Tryd.prog 18 #[va, .int .i64 id] w fun e w' => ∃ v, e = .returned v ∧ RecsAt w.heap.size w' v (withoutI a id) ∧ Below w.heap.size w w' := by
  have HA := Aside0.mk ha
  obtain ⟨Aa, ca, rfl, -⟩ := own_slice ha
  obtain ⟨na, hna⟩ : ∃ na, na = a.length := ⟨_, rfl⟩
  have HNA := Aside0.mk hna
  have hnaI : (na : Int) ≤ 10000000 := by omega
  rw [← hna]
  have HLA := Aside0.mk hla
  clear ha hna hla
  go_enter Tryd.func18, Tryd.ntmps18
  go_wp2_with fail
  go_loopg [5, 6] na (fun gk s5 s6 wr => ∃ (i : Nat) (v : Value), i + gk = na ∧ s6 = .int .i64 i ∧ v = s5 ∧ Aside0 (KF B w wr v (withoutI (a.take i) id)) ∧ Aside0 ((withoutI (a.take i) id).length ≤ i))
  case atStart => exact ⟨0, .slice none 0 0, by omega, rfl, rfl, ⟨⟨Below.refl _ _, ⟨rfl, .inl ⟨rfl, rfl⟩⟩⟩⟩, ⟨by simp [withoutI]⟩⟩
  case round =>
    obtain ⟨i, v, hi, rfl, rfl, HK, HL⟩ := hrel
    cases gk with
    | zero =>
      obtain rfl : i = na := by omega
      have hii : ¬ ((i : Int) < (i : Int)) := by omega
      have HT : Aside0 (a.take i = a) := ⟨List.take_of_length_le (by have := HNA.out; omega)⟩
      have HK2 : Aside0 (KF B w wr v (withoutI a id)) := ⟨by have h := HK.out; rw [HT.out] at h; exact h⟩
      go_wp2
      go_ret
      exact ⟨_, rfl, HK2.out.recs, HK2.out.bel⟩
    | succ gk =>
      have hii : (i : Int) < (na : Int) := by omega
      have hlt : i < a.length := by have := HNA.out; omega
      obtain ⟨⟨xs, xg, xb⟩, hx⟩ : ∃ x, a[i]? = some x := ⟨_, List.getElem?_eq_getElem hlt⟩
      obtain ⟨k, c1, hA, _, p0, p1, p2⟩ := (RecsAt.step HA.out HK.out.bel).at i _ hx
      injection hA with hA1 hA2 hA3
      subst hA1
      simp only at p0 p1 p2
      have hst := withoutI_take a id i _ hx
      simp only at hst
      have HI := Aside0.mk hi
      have HLN : Aside0 ((withoutI (a.take i) id).length + 1 ≤ 1000000000) := ⟨by have := HL.out; have := HLA.out; omega⟩
      clear hi hx hlt hA2 hA3
      by_cases hg : (xg : Int) = id
      · rw [if_pos hg] at hst
        have HST := Aside0.mk hst
        have hg2 : ((xg : Int) == id) = true := by simpa using hg
        clear hst hg
        go_wp2_with fail
        go_roundg gk
        case measure => omega
        case rel => exact ⟨i + 1, v, by have := HI.out; omega, by go_num, rfl, ⟨by rw [HST.out]; exact HK.out⟩, ⟨by rw [HST.out]; have := HL.out; omega⟩⟩
      · rw [if_neg hg] at hst
        have HST := Aside0.mk hst
        have hg2 : ((xg : Int) == id) = false := by simpa using hg
        clear hst
        go_wp2_with (first
          | ((with_reducible refine gate_dst (N := 25) rfl ?_); refine Lb.alloc_event ?hg (v := fun g => .slice (some ⟨g, 0, none⟩) 1 1) (cs := #[.int .i64 xs, .int .i64 xg, .string (toB xb)]) (t := 34) (fr := (0, 0)) ?hr ?_; (case hg => rfl); (case hr => first | (go_simp; done) | (go_simp; rfl)); intro g3 hg3 w3 hx hb; have HNB : Aside0 (NewBlk wr w3 g3 #[.int .i64 xs, .int .i64 xg, .string (toB xb)] 34) := ⟨⟨hx, hb⟩⟩; clear hx hb hg3)
          | (at_builtin; refine app_event (w0 := wr) rfl (.tmp 20) (.tmp 25) 30 34 _ 3 32 rfl Tryd.underlying30 rec_info rfl (by decide) (by decide) (B := w.heap.size) (n := _) (m := 1) (v := _) (xs := _) (news := [.int .i64 xs, .int .i64 xg, .string (toB xb)]) rfl HK.out.recs HNB.out rfl rfl (by simp [Value.oneCell']) HK.out.bel.size HLN.out ?_; intro v' w4 ha; have HA4 := Aside0.mk ha; clear ha p0 p1 p2))
        go_roundg gk
        case measure => omega
        case rel => exact ⟨i + 1, v', by have := HI.out; omega, by go_num, rfl, ⟨by rw [HST.out]; exact ⟨HK.out.bel.trans HA4.out.bel, App.recs (x := ⟨xs, xg, xb⟩) HA4.out⟩⟩, ⟨by rw [HST.out, List.length_append]; have := HL.out; simp only [List.length_singleton]; omega⟩⟩

/-- a step's text -/
def bodyGo (t : List UInt8) (n : Int) : Nat → Nat → List UInt8 → List UInt8
  | 0, _, s => s
  | f + 1, i, s => if (i : Int) ≤ n then if 5000 < (s ++ t).length then s ++ t else bodyGo t n f (i + 1) (s ++ t) else s
def bodyOf (N : Int) (t : List UInt8) : List UInt8 := bodyGo t (N.tmod 9) 10 0 []
theorem bodyGo_len (t : List UInt8) (n : Int) : ∀ (f i : Nat) (s : List UInt8), (bodyGo t n f i s).length ≤ s.length + f * t.length
  | 0, _, s => by rw [bodyGo]; omega
  | f + 1, i, s => by
    rw [bodyGo]
    have e : (f + 1) * t.length = f * t.length + t.length := Nat.succ_mul f t.length
    have hl : (s ++ t).length = s.length + t.length := List.length_append
    split
    · split
      · omega
      · have := bodyGo_len t n f (i + 1) (s ++ t); omega
    · omega
theorem bodyOf_len (N : Int) (t : List UInt8) : (bodyOf N t).length ≤ 10 * t.length := by
  have := bodyGo_len t (N.tmod 9) 10 0 []
  simpa [bodyOf] using this
attribute [local go_sem] toB_size
set_option maxRecDepth 100000 in
theorem body_calls (W N : Int) (t : List UInt8) (w : World) (ht : t.length ≤ 100000000) :
    Calls Tryd.prog 19 #[.agg #[.int .i64 W, .int .i64 N, .string (toB t)]] w fun e w' => e = .returned (.string (toB (bodyOf N t))) ∧ Below w.heap.size w w' := by
  obtain ⟨n, hn⟩ : ∃ n, N.tmod 9 = n := ⟨_, rfl⟩
  have hn1 : -8 ≤ n ∧ n ≤ 8 := by rw [← hn]; have h1 := Int.tmod_lt_of_pos N (show (0 : Int) < 9 by omega); have h2 := Int.lt_tmod_of_pos N (show (0 : Int) < 9 by omega); omega
  have HBO : Aside0 (bodyOf N t = bodyGo t n 10 0 []) := ⟨by unfold bodyOf; rw [hn]⟩
  have HT := Aside0.mk ht
  obtain ⟨hn2, hn3⟩ := hn1
  clear ht
  go_enter Tryd.func19, Tryd.ntmps19
  go_wp2_with (first
    | ((with_reducible refine gate_dst (N := 1) rfl ?_); refine box_event ?hg (N := 1) ?hd (cs := #[.int .i64 W, .int .i64 N, .string (toB t)]) (t := 45) ?hr ?_; (case hd => rfl); (case hg => rfl); (case hr => first | (go_simp; done) | (go_simp; rfl)); intro g1 hg1 w1 hx hb; have HX1 := Aside0.mk hx; have HB1 := Aside0.mk hb; have c1 := (blk_cell hx 1).trans rfl; have c2 := (blk_cell hx 2).trans rfl; clear hx hb hg1))
  go_loopg [3, 5] 10 (fun gk s3 s5 wr => ∃ (i : Nat) (s : List UInt8), i + gk = 10 ∧ s5 = .int .i64 i ∧ s3 = .string (toB s) ∧ w1 = wr ∧ Aside0 (bodyGo t n gk i s = bodyOf N t) ∧ Aside0 (s.length ≤ i * 100000000))
  case atStart => exact ⟨0, [], rfl, rfl, rfl, rfl, ⟨HBO.out.symm⟩, ⟨Nat.le_refl _⟩⟩
  case round =>
    obtain ⟨i, s, hi, rfl, rfl, rfl, HR, HL⟩ := hrel
    cases gk with
    | zero =>
      obtain rfl : i = 10 := by omega
      have hii : ¬ ((10 : Int) ≤ n) := by omega
      have hii2 : ¬ (((10 : Nat) : Int) ≤ n) := by omega
      have HRV : Aside0 (s = bodyOf N t) := HR
      go_wp2
      go_ret
      exact ⟨by rw [← HRV.out]; rfl, HB1.out⟩
    | succ gk =>
      have HI := Aside0.mk hi
      have hR := HR.out
      rw [bodyGo] at hR
      by_cases hin : (i : Int) ≤ n
      · rw [if_pos hin] at hR
        have hlen : (s ++ t).length = s.length + t.length := List.length_append
        have hL := HL.out
        have hT := HT.out
        have hmx : s.length + t.length ≤ 9223372036854775807 := by omega
        have hadd := toB_add s t
        by_cases h5 : 5000 < (s ++ t).length
        · rw [if_pos h5] at hR
          have HRV := Aside0.mk hR
          have h5a : 5000 < s.length + t.length := by omega
          have h5b : (5000 : Int) < (s.length : Int) + (t.length : Int) := by omega
          have h5c : (5000 : Int) < ((s ++ t).length : Int) := by omega
          clear hR hi hL hT hlen h5
          go_wp2
          go_ret
          exact ⟨by rw [← HRV.out]; rfl, HB1.out⟩
        · rw [if_neg h5] at hR
          have HRV := Aside0.mk hR
          have HL2 : Aside0 ((s ++ t).length ≤ (i + 1) * 100000000) := ⟨by omega⟩
          have h5a : ¬ (5000 < s.length + t.length) := by omega
          have h5b : ¬ ((5000 : Int) < (s.length : Int) + (t.length : Int)) := by omega
          have h5c : ¬ ((5000 : Int) < ((s ++ t).length : Int)) := by omega
          clear hR hi hL hT hlen h5
          go_wp2
          go_roundg gk
          case measure => omega
          case rel => exact ⟨i + 1, s ++ t, by have := HI.out; omega, by go_num, rfl, rfl, HRV, HL2⟩
      · rw [if_neg hin] at hR
        have HRV := Aside0.mk hR
        clear hR hi
        go_wp2
        go_ret
        exact ⟨by rw [← HRV.out]; rfl, HB1.out⟩
end Go.Proofs.YtfiocakhgpdlfaaDoor.Sg

namespace Go.Proofs.YtfiocakhgpdlfaaDoor.Sg
open Go.RowKit Go.Lib Go.Proofs.YtfiocakhgpdlfaaDoor.Ap Go.Proofs.YtfiocakhgpdlfaaDoorW.PrintWords Go.Proofs.YtfiocakhgpdlfaaDoorW.PrintLast Go.Proofs.YtfiocakhgpdlfaaDoorW.PrintMore
set_option linter.unusedVariables false
set_option linter.unusedSimpArgs false

/-- a log's bounds -/
def Bnd (c : Cp) (s b q : Nat) : Prop := c.serial ≤ s ∧ c.boot ≤ b ∧ c.seq ≤ q
/-- a log that works -/
structure On1 (B : Nat) (w : World) (gl gd : Nat) (d : Dk) (l : Lg) (all : List Rec) (s b q : Nat) : Prop where
  log : LAt B w gl gd l
  dk : DAt B w gd d
  inv : I d l all
  len : d.now.length ≤ 1026
  bnd : Bnd l.cp s b q
theorem On1.step {B : Nat} {w w' : World} {gl gd : Nat} {d : Dk} {l : Lg} {all : List Rec} {s b q : Nat} (h : On1 B w gl gd d l all s b q) (hb : Below w.heap.size w w') : On1 B w' gl gd d l all s b q :=
  ⟨h.log.step hb, h.dk.step hb, h.inv, h.len, h.bnd⟩
/-- a disk without power -/
structure Off1 (B : Nat) (w : World) (gd : Nat) (d : Dk) (all : List Rec) (s b q : Nat) : Prop where
  dk : DAt B w gd d
  dead : Dead d
  inv : ∃ cur place, C d.now cur place all ∧ Bnd cur s b q
theorem Off1.step {B : Nat} {w w' : World} {gd : Nat} {d : Dk} {all : List Rec} {s b q : Nat} (h : Off1 B w gd d all s b q) (hb : Below w.heap.size w w') : Off1 B w' gd d all s b q :=
  ⟨h.dk.step hb, h.dead, h.inv⟩
/-- a record as a value -/
def recA (x : Rec) : Value := .agg #[.int .i64 x.seq, .int .i64 x.seg, .string (toB x.body)]
def rec0 : Value := .agg #[.int .i64 0, .int .i64 0, .string ⟨#[]⟩]
def AppPost (B gl gd : Nat) (w : World) (all : List Rec) (body : List UInt8) (s b q : Nat) (e : Ending) (w' : World) : Prop :=
  FrL B w w' ∧ ((∃ d' l' x, e = .returned (.tuple #[recA x, .int .i64 0]) ∧ x.body = body ∧ On1 B w' gl gd d' l' (all ++ [x]) (s + 1) b (q + 1)) ∨
    (∃ d' l' r, r ≠ 0 ∧ e = .returned (.tuple #[rec0, .int .i64 r]) ∧ On1 B w' gl gd d' l' all (s + 1) b (q + 1)) ∨
    (∃ d' all', e = .returned (.tuple #[rec0, .int .i64 20]) ∧ (all' = all ∨ ∃ x : Rec, x.body = body ∧ all' = all ++ [x]) ∧ Off1 B w' gd d' all' (s + 1) b (q + 1)))
theorem cpFor_bnd {S : List ByteArray} {c c' : Cp} {n : Nat} {o : Bool} (h : cpFor S c n = some (c', o)) : c'.serial ≤ c.serial + 1 ∧ c'.boot = c.boot ∧ c'.seq = c.seq := by
  unfold cpFor at h
  split at h
  · injection h with h; injection h with h _; subst h; exact ⟨by omega, rfl, rfl⟩
  · cases hf : freeId (segsN S) c.segs with
    | none => rw [hf] at h; cases h
    | some i => rw [hf] at h; injection h with h; injection h with h _; subst h; exact ⟨Nat.le_refl _, rfl, rfl⟩
attribute [local go_sem] toB_size
set_option maxRecDepth 100000 in
/-- a text that no segment holds -/
theorem append_long (B gl gd : Nat) (d : Dk) (l : Lg) (body : List UInt8) (w : World) (hl : LAt B w gl gd l) (hd : DAt B w gd d) (h16 : 16 < partsN body.length) (hbl : body.length ≤ 1000000000) :
    Calls Tryd.prog 12 #[.pointer (some ⟨gl, 0, none⟩), .string (toB body)] w fun e w' => e = .returned (.tuple #[.agg #[.int .i64 0, .int .i64 0, .string ⟨#[]⟩], .int .i64 2]) ∧ Below w.heap.size w w' := by
  obtain ⟨of, hof⟩ : ∃ of, partsN body.length = of := ⟨_, rfl⟩
  have HOF := Aside0.mk hof
  have HBL : Aside0 (body.length ≤ 1000000000000000) := ⟨by omega⟩
  have h16i : (16 : Int) < (of : Int) := by omega
  have hblI : (body.length : Int) ≤ 1000000000 := by omega
  clear hl hd h16 hbl hof
  go_enter Tryd.func12, Tryd.ntmps12
  go_wp2_with (first
    | ((with_reducible refine gate_dst (N := 4) rfl ?_); refine Lb.alloc_event ?hg (v := fun g => .pointer (some ⟨g, 0, none⟩)) (cs := #[.int .i64 0, .int .i64 0, .string ⟨#[]⟩]) (t := 34) (fr := (0, 0)) ?hr ?_; (case hg => rfl); (case hr => first | (go_simp; done) | (go_simp; rfl)); intro g4 hg4 w1 hx hb; have HX1 := Aside0.mk hx; have HB1 := Aside0.mk hb; have HG1 := Aside0.mk hg4; clear hx hb hg4)
    | (go_at_call 40; (with_reducible refine (parts_any body.length of HOF.out HBL.out _).mono ?_); rintro e1 wb ⟨rfl, hb⟩; have HBb := Aside0.mk (below_step HB1.out hb); have HXb := Aside0.mk (Lb.blk_below HX1.out hb); clear hb)
    | ((with_reducible refine gate_store (t := 34) (p := 4) rfl ?_); refine Lb.store_whole rfl rfl 34 (.tmp 4) (.tmp 24) rfl (new := #[.int .i64 0, .int .i64 0, .string ⟨#[]⟩]) rfl rfl HXb.out rfl (by kernel_rfl) (by simp [Value.oneCell']) ?_; intro w2 hb hg; have HX2 := Aside0.mk hb; have HB2 := Aside0.mk (Lb.grown_below HBb.out hg HBb.out.size (by have := HG1.out; omega)); clear hb hg))
  have v0 := (blk_cell HX2.out 0).trans rfl
  have v1 := (blk_cell HX2.out 1).trans rfl
  have v2 := (blk_cell HX2.out 2).trans rfl
  exact bodyPost_ret (v := .tuple #[.agg #[.int .i64 0, .int .i64 0, .string ⟨#[]⟩], .int .i64 2]) (by simp [results, Tryd.results12, go_sem, v0, v1, v2]) rfl ⟨rfl, HB2.out⟩
theorem append_pw (B gl gd : Nat) {d : Dk} {l : Lg} {all : List Rec} {s b q : Nat} (body : List UInt8) {w : World} (h : On1 B w gl gd d l all s b q) (hs : s < top) (hb : b < top) (hq : q < top) (hbl : body.length ≤ 10485760) :
    Calls Tryd.prog 12 #[.pointer (some ⟨gl, 0, none⟩), .string (toB body)] w (AppPost B gl gd w all body s b q) := by
  obtain ⟨b1, b2, b3⟩ := h.bnd
  by_cases hbl' : 1000000 < body.length
  · refine (append_long B gl gd d l body w h.log h.dk (by unfold partsN; omega) (by omega)).mono fun e w' hp => ?_
    exact ⟨FrL.of hp.2 h.dk.lt, .inr (.inl ⟨d, l, 2, by decide, hp.1, h.log.step hp.2, h.dk.step hp.2, h.inv, h.len, by omega, b2, by omega⟩)⟩
  refine (append_at B gl gd d l all body w h.log h.dk h.inv (by omega) (by omega) (by omega) (by omega)).mono fun e w' hp => ?_
  obtain ⟨h1, h2, h3, h4⟩ := hp
  refine ⟨h4, ?_⟩
  rcases append_spec (body := body) h.inv (by omega) (by omega) (by omega) with ⟨_, g1⟩ | ⟨_, g⟩
  · rw [g1] at h1 h2 h3
    exact .inr (.inl ⟨d, l, 2, by decide, h1, h3, h2, h.inv, h.len, by omega, b2, by omega⟩)
  · rcases g with ⟨_, g1⟩ | ⟨c', o', g1, g2⟩
    · rw [g1] at h1 h2 h3
      exact .inr (.inl ⟨d, l, 21, by decide, h1, h3, h2, h.inv, h.len, by omega, b2, by omega⟩)
    · obtain ⟨e1, e2, e3⟩ := cpFor_bnd g1
      rcases g2 with ⟨k1, k2, k3, k4, k5⟩ | ⟨k1, k2, k3, k4, cur, place, k5, k6, k7, k8⟩
      · refine .inl ⟨_, _, ⟨c'.seq, (lastSeg c').id, body⟩, by rw [h1, k1]; rfl, rfl, h3, h2, k3, by rw [k5]; exact h.len, ?_⟩
        rw [k2]
        exact ⟨by show c'.serial ≤ _; omega, by show c'.boot ≤ _; omega, by show c'.seq + 1 ≤ _; omega⟩
      · rcases k5 with k5 | k5
        · exact .inr (.inr ⟨_, all, by rw [h1, k1]; rfl, .inl rfl, h2, k2, cur, place, k5, by omega, by omega, by omega⟩)
        · exact .inr (.inr ⟨_, _, by rw [h1, k1]; rfl, .inr ⟨_, rfl, rfl⟩, h2, k2, cur, place, k5, by omega, by omega, by omega⟩)
def DropPost (B gl gd : Nat) (w : World) (all : List Rec) (id : Int) (s b q : Nat) (e : Ending) (w' : World) : Prop :=
  FrL B w w' ∧ ((∃ d' l', e = .returned (.int .i64 0) ∧ On1 B w' gl gd d' l' (withoutI all id) (s + 1) b (q + 1)) ∨
    (∃ d' l' r, r ≠ 0 ∧ e = .returned (.int .i64 r) ∧ On1 B w' gl gd d' l' all (s + 1) b (q + 1)) ∨
    (∃ d' all', 0 ≤ id ∧ e = .returned (.int .i64 20) ∧ (all' = all ∨ all' = withoutI all id) ∧ Off1 B w' gd d' all' (s + 1) b (q + 1)))
theorem drop_pw (B gl gd : Nat) {d : Dk} {l : Lg} {all : List Rec} {s b q : Nat} (id : Int) {w : World} (h : On1 B w gl gd d l all s b q) (hs : s < top) (hb : b < top) (hq : q < top) :
    Calls Tryd.prog 17 #[.pointer (some ⟨gl, 0, none⟩), .int .i64 id] w (DropPost B gl gd w all id s b q) := by
  obtain ⟨b1, b2, b3⟩ := h.bnd
  refine (drop_at B gl gd d l all id w h.log h.dk h.inv (by omega) (by omega) (by omega)).mono fun e w' hp => ?_
  obtain ⟨h1, h2, h3, h4⟩ := hp
  refine ⟨h4, ?_⟩
  rcases drop_spec (id := id) h.inv (by omega) (by omega) (by omega) with g1 | ⟨i, k1, ⟨sg, hs1, hs2⟩, k⟩
  · rw [g1] at h1 h2 h3
    exact .inr (.inl ⟨d, l, 1, by decide, h1, h3, h2, h.inv, h.len, by omega, b2, by omega⟩)
  · have hid : 0 ≤ id := by omega
    have hw := withoutI_nat all id hid
    rcases k with ⟨k1, k2, k3, k4, k5⟩ | ⟨k1, k2, k3, k4, k5⟩
    · refine .inl ⟨_, _, by rw [h1, k1], h3, h2, by rw [k3, hw]; exact k2, by rw [k5]; exact h.len, ?_⟩
      rw [k3]
      exact ⟨by show l.cp.serial + 1 ≤ _; omega, b2, by show l.cp.seq ≤ _; omega⟩
    · rcases k5 with k5 | k5
      · exact .inr (.inr ⟨_, all, hid, by rw [h1, k1], .inl rfl, h2, k2, l.cp, l.place, k5, by omega, by omega, by omega⟩)
      · exact .inr (.inr ⟨_, _, hid, by rw [h1, k1], .inr rfl, h2, k2, nextC l (l.cp.segs.eraseIdx i), 1 - l.place, by rw [hw]; exact k5, by show l.cp.serial + 1 ≤ _; omega, b2, by show l.cp.seq ≤ _; omega⟩)
def OpnPost (B gd : Nat) (w : World) (d : Dk) (all : List Rec) (s b q : Nat) (e : Ending) (w' : World) : Prop :=
  FrL B w w' ∧ ((∃ d' gl v l', e = .returned (.tuple #[.pointer (some ⟨gl, 0, none⟩), v, .int .i64 0]) ∧ On1 B w' gl gd d' l' all (s + 1) (b + 1) q ∧ RecsAt B w' v all) ∨
    (∃ d', d.left ≠ 0 ∧ e = .returned (.tuple #[.pointer none, .slice none 0 0, .int .i64 20]) ∧ Off1 B w' gd d' all (s + 1) (b + 1) q))
theorem Laid.few {S : List ByteArray} : ∀ {l : List Seg} {x : List Rec}, Laid S l x → (∀ s ∈ l, s.used ≤ 16) → x.length ≤ 16 * l.length
  | [], x, h, _ => by
    have : x = [] := h
    subst this; simp
  | s :: r, x, ⟨rs, rest, e, h1, h2⟩, hu => by
    have h3 := h1.le
    have h4 := Laid.few h2 (fun t ht => hu t (by simp [ht]))
    have h5 := hu s (by simp)
    subst e
    rw [List.length_append, List.length_cons]
    omega
theorem C.few {S : List ByteArray} {cur : Cp} {place : Nat} {all : List Rec} (h : C S cur place all) : all.length ≤ 2000 := by
  obtain ⟨c, all0, rs, e, hJ, rfl, rfl⟩ := h
  have h1 := hJ.laid.few hJ.ok.segs.used
  have h2 := hJ.ok.segs.len
  have h3 := segsN_le S
  have h4 := hJ.tail.le
  have h5 := hJ.e16
  rw [List.length_append]
  omega
theorem open_pw (B gd : Nat) (d : Dk) (cur : Cp) (place : Nat) (all : List Rec) (s b q : Nat) (w : World) (hd : DAt B w gd d) (hi : Idle d) (hC : C d.now cur place all) (hbn : Bnd cur s b q) (hs : s < top) (hb : b < top) (hq : q < top) :
    Calls Tryd.prog 11 #[.pointer (some ⟨gd, 0, none⟩)] w (OpnPost B gd w d all s b q) := by
  obtain ⟨b1, b2, b3⟩ := hbn
  refine (open_at B gd d cur place all w hd hi hC (by omega) (by omega) (by omega) (by have := hC.few; omega)).mono fun e w' h => ?_
  rcases h with ⟨d', gl, v, h1, h2, h3, h4, h5, h6, h7, h8⟩ | ⟨d', h1, h2, h3, h4, h5, h6, h7⟩
  · exact ⟨h5, .inl ⟨d', gl, v, _, h1, ⟨h3, h2, h6, h2.ok.le, by show cur.serial + 1 ≤ _; omega, by show cur.boot + 1 ≤ _; omega, b3⟩, h4⟩⟩
  · refine ⟨h3, .inr ⟨d', h5, h1, h2, h4, ?_⟩⟩
    rcases h7 with h7 | h7
    · exact ⟨_, _, h7, by omega, by omega, by omega⟩
    · exact ⟨_, _, h7, by show cur.serial + 1 ≤ _; omega, by show cur.boot + 1 ≤ _; omega, b3⟩
end Go.Proofs.YtfiocakhgpdlfaaDoor.Sg

namespace Go.Proofs.YtfiocakhgpdlfaaDoor.Sg
open Go.RowKit Go.Lib Go.Proofs.YtfiocakhgpdlfaaDoor.Ap Go.Proofs.YtfiocakhgpdlfaaDoor.PA Go.Proofs.YtfiocakhgpdlfaaDoorW.PrintWords Go.Proofs.YtfiocakhgpdlfaaDoorW.PrintLast Go.Proofs.YtfiocakhgpdlfaaDoorW.PrintMore
set_option linter.unusedVariables false
set_option linter.unusedSimpArgs false

structure ActR where
  f0 : Int
  f1 : Int
  f2 : ByteArray
instance : Inhabited ActR := ⟨⟨0, 0, ⟨#[]⟩⟩⟩
def kAct : Kd ActR := Kd.iso (Kd.pair (Kd.int .i64) (Kd.pair (Kd.int .i64) Kd.string)) (fun x : ActR => (x.f0, x.f1, x.f2))
theorem kAct_open {w : World} {x : ActR} {cs : List Value} (h : kAct.K w x cs) : cs = [.int .i64 x.f0, .int .i64 x.f1, .string x.f2] := by
  obtain ⟨_, _, rfl, rfl, ⟨_, _, rfl, rfl, rfl⟩⟩ := h
  exact rfl
theorem at_act {w : World} {A : Option Addr} {n : Nat} {xs : List ActR} (h : Kd.C kAct w A n xs) (i : Nat) (x : ActR) (hi : i < n) (hx : xs[i]? = some x) : ∃ ad, A = some ad ∧ w.cell? (ad.add (i * 3)) = some (.int .i64 x.f0) ∧ w.cell? ⟨(ad.add (i * 3)).block, (ad.add (i * 3)).off + 1, none⟩ = some (.int .i64 x.f1) ∧ w.cell? ⟨(ad.add (i * 3)).block, (ad.add (i * 3)).off + 2, none⟩ = some (.string x.f2) := by
  obtain ⟨ad, c, e, _, hK, hc0⟩ := Kd.C_get h default (i : Int) (by omega) (by omega)
  have hg : xs.getD (i : Int).toNat default = x := by rw [Int.toNat_natCast, List.getD_eq_getElem?_getD, hx]; rfl
  rw [hg] at hK
  have hc : ∀ j u, c[j]? = some u → w.cell? (ad.add (i * 3 + j)) = some u := hc0
  obtain rfl := kAct_open hK
  exact ⟨ad, e, hc 0 _ rfl, by rw [← add_field _ _ 1 (by omega)]; exact hc 1 _ rfl, by rw [← add_field _ _ 2 (by omega)]; exact hc 2 _ rfl⟩
structure CutR where
  f0 : Int
  f1 : Int
  f2 : Int
instance : Inhabited CutR := ⟨⟨0, 0, 0⟩⟩
def kCut : Kd CutR := Kd.iso (Kd.pair (Kd.int .i64) (Kd.pair (Kd.int .i64) (Kd.int .i64))) (fun x : CutR => (x.f0, x.f1, x.f2))
theorem kCut_open {w : World} {x : CutR} {cs : List Value} (h : kCut.K w x cs) : cs = [.int .i64 x.f0, .int .i64 x.f1, .int .i64 x.f2] := by
  obtain ⟨_, _, rfl, rfl, ⟨_, _, rfl, rfl, rfl⟩⟩ := h
  exact rfl
theorem at_cut {w : World} {A : Option Addr} {n : Nat} {xs : List CutR} (h : Kd.C kCut w A n xs) (i : Nat) (x : CutR) (hi : i < n) (hx : xs[i]? = some x) : ∃ ad, A = some ad ∧ w.cell? (ad.add (i * 3)) = some (.int .i64 x.f0) ∧ w.cell? ⟨(ad.add (i * 3)).block, (ad.add (i * 3)).off + 1, none⟩ = some (.int .i64 x.f1) ∧ w.cell? ⟨(ad.add (i * 3)).block, (ad.add (i * 3)).off + 2, none⟩ = some (.int .i64 x.f2) := by
  obtain ⟨ad, c, e, _, hK, hc0⟩ := Kd.C_get h default (i : Int) (by omega) (by omega)
  have hg : xs.getD (i : Int).toNat default = x := by rw [Int.toNat_natCast, List.getD_eq_getElem?_getD, hx]; rfl
  rw [hg] at hK
  have hc : ∀ j u, c[j]? = some u → w.cell? (ad.add (i * 3 + j)) = some u := hc0
  obtain rfl := kCut_open hK
  exact ⟨ad, e, hc 0 _ rfl, by rw [← add_field _ _ 1 (by omega)]; exact hc 1 _ rfl, by rw [← add_field _ _ 2 (by omega)]; exact hc 2 _ rfl⟩
/-- a disk's size by a number -/
theorem disk_calls (n : Int) (w : World) : Calls Tryd.prog 15 #[.int .i64 n] w fun e w' => ∃ (m : Nat) (g : Nat), 66 ≤ m ∧ m ≤ 115 ∧ e = .returned (.tuple #[.pointer (some ⟨g, 0, none⟩), .int .i64 m]) ∧ DAt w.heap.size w' g (Dk.mk0 m) ∧ Below w.heap.size w w' := by
  obtain ⟨t, ht⟩ : ∃ t, n.tmod 50 = t := ⟨_, rfl⟩
  have ht1 : -49 ≤ t ∧ t ≤ 49 := by rw [← ht]; have h1 := Int.tmod_lt_of_pos n (show (0 : Int) < 50 by omega); have h2 := Int.lt_tmod_of_pos n (show (0 : Int) < 50 by omega); omega
  obtain ⟨ht2, ht3⟩ := ht1
  obtain ⟨m, hm⟩ : ∃ m : Nat, (m : Int) = 66 + t % 50 := ⟨(66 + t % 50).toNat, by omega⟩
  have hm1 : 66 ≤ m ∧ m ≤ 115 := by omega
  have HM := Aside0.mk hm1
  have hmr : (66 : Int) + t % 50 = (m : Int) := hm.symm
  clear hm hm1
  go_enter Tryd.func15, Tryd.ntmps15
  go_wp2_with (first
    | (go_at_call 9; (with_reducible refine (new_calls m w (by have := HM.out; omega) (by have := HM.out; omega)).mono ?_); rintro e1 w1 ⟨g, rfl, hd, hb⟩; have HD := Aside0.mk hd; have HB := Aside0.mk hb; clear hd hb))
  go_ret2
  exact ⟨m, g, HM.out.1, HM.out.2, rfl, HD.out, HB.out⟩
/-- what is known between two steps of a script -/
structure CW (B : Nat) (w0 w : World) (gl gd : Nat) (d : Dk) (l : Lg) (all : List Rec) (va : Value) (s b q : Nat) : Prop where
  on : On1 B w gl gd d l all s b q
  recs : RecsAt B w va all
  bel : Below B w0 w
theorem CW.step {B : Nat} {w0 w w' : World} {gl gd : Nat} {d : Dk} {l : Lg} {all : List Rec} {va : Value} {s b q : Nat} (h : CW B w0 w gl gd d l all va s b q) (hb : Below w.heap.size w w') : CW B w0 w' gl gd d l all va s b q :=
  ⟨h.on.step hb, h.recs.step hb, h.bel.trans (hb.mono h.on.dk.lt)⟩
theorem CW.cut {B : Nat} {w0 w w' : World} {gl gd : Nat} {d : Dk} {l : Lg} {all : List Rec} {va : Value} {s b q : Nat} {n k : Int} (h : CW B w0 w gl gd d l all va s b q) (hd : DAt B w' gd (d.cut n k)) (hf : FrS B w w') : CW B w0 w' gl gd (d.cut n k) l all va s b q := by
  obtain ⟨i1, i2⟩ := h.on.inv.idle.cut n k
  obtain ⟨vS, hl⟩ := h.on.log
  exact ⟨⟨⟨vS, hl.frS hf⟩, hd, h.on.inv.of_now i1 i2, by rw [i2]; exact h.on.len, h.on.bnd⟩, h.recs.frL hf.toL, h.bel.trans hf.bel⟩
theorem Bnd.mono {c : Cp} {s b q s' b' q' : Nat} (h : Bnd c s b q) (h1 : s ≤ s') (h2 : b ≤ b') (h3 : q ≤ q') : Bnd c s' b' q' := ⟨Nat.le_trans h.1 h1, Nat.le_trans h.2.1 h2, Nat.le_trans h.2.2 h3⟩
theorem CW.mono {B : Nat} {w0 w : World} {gl gd : Nat} {d : Dk} {l : Lg} {all : List Rec} {va : Value} {s b q s' b' q' : Nat} (h : CW B w0 w gl gd d l all va s b q) (h1 : s ≤ s') (h2 : b ≤ b') (h3 : q ≤ q') : CW B w0 w gl gd d l all va s' b' q' :=
  ⟨⟨h.on.log, h.on.dk, h.on.inv, h.on.len, h.on.bnd.mono h1 h2 h3⟩, h.recs, h.bel⟩
/-- what is known while there is no power -/
structure CF (B : Nat) (w0 w : World) (gd : Nat) (d : Dk) (all2 : List Rec) (all : List Rec) (va : Value) (s b q : Nat) : Prop where
  off : Off1 B w gd d all2 s b q
  recs : RecsAt B w va all
  bel : Below B w0 w
theorem CF.step {B : Nat} {w0 w w' : World} {gd : Nat} {d : Dk} {all2 all : List Rec} {va : Value} {s b q : Nat} (h : CF B w0 w gd d all2 all va s b q) (hb : Below w.heap.size w w') : CF B w0 w' gd d all2 all va s b q :=
  ⟨h.off.step hb, h.recs.step hb, h.bel.trans (hb.mono h.off.dk.lt)⟩
/-- what a step comes to -/
def Stepped (B : Nat) (w0 : World) (gl gd : Nat) (all : List Rec) (va : Value) (s b q : Nat) (r : Int) (va' : Value) (more : List UInt8) (dr : Int) (w' : World) : Prop :=
  (∃ d' l' all', CW B w0 w' gl gd d' l' all' va' s b q) ∨
  (∃ d' all2, r = 20 ∧ va' = va ∧ CF B w0 w' gd d' all2 all va s b q ∧ (all2 = all ∨ (0 ≤ dr ∧ all2 = withoutI all dr) ∨ (dr = -1 ∧ ∃ x : Rec, x.body = more ∧ all2 = all ++ [x])))
/-- Drop, its number apart -/
def DropSt (B gl gd : Nat) (w : World) (all : List Rec) (id : Int) (s b q : Nat) (r : Int) (w' : World) : Prop :=
  FrL B w w' ∧ ((r = 0 ∧ ∃ d' l', On1 B w' gl gd d' l' (withoutI all id) (s + 1) b (q + 1)) ∨ (r ≠ 0 ∧ ∃ d' l', On1 B w' gl gd d' l' all (s + 1) b (q + 1)) ∨
    (r = 20 ∧ ∃ d' all', 0 ≤ id ∧ (all' = all ∨ all' = withoutI all id) ∧ Off1 B w' gd d' all' (s + 1) b (q + 1)))
theorem drop_st (B gl gd : Nat) {d : Dk} {l : Lg} {all : List Rec} {s b q : Nat} (id : Int) {w : World} (h : On1 B w gl gd d l all s b q) (hs : s < top) (hb : b < top) (hq : q < top) :
    Calls Tryd.prog 17 #[.pointer (some ⟨gl, 0, none⟩), .int .i64 id] w fun e w' => ∃ r, e = .returned (.int .i64 r) ∧ DropSt B gl gd w all id s b q r w' :=
  (drop_pw B gl gd id h hs hb hq).mono fun e w' hp => by
    obtain ⟨hf, ⟨d', l', h1, h2⟩ | ⟨d', l', r, h0, h1, h2⟩ | ⟨d', all', h0, h1, h2, h3⟩⟩ := hp
    · exact ⟨0, h1, hf, .inl ⟨rfl, d', l', h2⟩⟩
    · exact ⟨r, h1, hf, .inr (.inl ⟨h0, d', l', h2⟩)⟩
    · exact ⟨20, h1, hf, .inr (.inr ⟨rfl, d', all', h0, h2, h3⟩)⟩
/-- Append, its number and its record apart -/
def AppSt (B gl gd : Nat) (w : World) (all : List Rec) (body : List UInt8) (s b q : Nat) (x y : Int) (z : ByteArray) (r : Int) (w' : World) : Prop :=
  FrL B w w' ∧ ((r = 0 ∧ ∃ d' l' v, x = (v : Rec).seq ∧ y = v.seg ∧ z = toB v.body ∧ v.body = body ∧ On1 B w' gl gd d' l' (all ++ [v]) (s + 1) b (q + 1)) ∨ (r ≠ 0 ∧ ∃ d' l', On1 B w' gl gd d' l' all (s + 1) b (q + 1)) ∨
    (r = 20 ∧ ∃ d' all', (all' = all ∨ ∃ v : Rec, v.body = body ∧ all' = all ++ [v]) ∧ Off1 B w' gd d' all' (s + 1) b (q + 1)))
theorem append_st (B gl gd : Nat) {d : Dk} {l : Lg} {all : List Rec} {s b q : Nat} (body : List UInt8) {w : World} (h : On1 B w gl gd d l all s b q) (hs : s < top) (hb : b < top) (hq : q < top) (hbl : body.length ≤ 10485760) :
    Calls Tryd.prog 12 #[.pointer (some ⟨gl, 0, none⟩), .string (toB body)] w fun e w' => ∃ x y z r, e = .returned (.tuple #[.agg #[.int .i64 x, .int .i64 y, .string z], .int .i64 r]) ∧ AppSt B gl gd w all body s b q x y z r w' :=
  (append_pw B gl gd body h hs hb hq hbl).mono fun e w' hp => by
    obtain ⟨hf, ⟨d', l', v, h1, h2, h3⟩ | ⟨d', l', r, h0, h1, h2⟩ | ⟨d', all', h1, h2, h3⟩⟩ := hp
    · exact ⟨_, _, _, 0, h1, hf, .inl ⟨rfl, d', l', v, rfl, rfl, rfl, h2, h3⟩⟩
    · exact ⟨0, 0, ⟨#[]⟩, r, h1, hf, .inr (.inl ⟨h0, d', l', h2⟩)⟩
    · exact ⟨0, 0, ⟨#[]⟩, 20, h1, hf, .inr (.inr ⟨rfl, d', all', h2, h3⟩)⟩
theorem body_any (W N : Int) (s : ByteArray) (w : World) (hs : s.size ≤ 100000000) :
    Calls Tryd.prog 19 #[.agg #[.int .i64 W, .int .i64 N, .string s]] w fun e w' => e = .returned (.string (toB (bodyOf N s.data.toList))) ∧ Below w.heap.size w w' :=
  body_calls W N s.data.toList w hs
theorem off_any (B g : Nat) (d : Dk) (b : Bool) (hb : d.off = b) (w : World) (h : DAt B w g d) : Calls Tryd.prog 20 #[.pointer (some ⟨g, 0, none⟩)] w fun e w' => e = .returned (.bool b) ∧ w = w' := by
  subst hb; exact off_calls B g d w h
theorem Off1.mono {B : Nat} {w : World} {gd : Nat} {d : Dk} {all : List Rec} {s b q s' b' q' : Nat} (h : Off1 B w gd d all s b q) (h1 : s ≤ s') (h2 : b ≤ b') (h3 : q ≤ q') : Off1 B w gd d all s' b' q' := by
  obtain ⟨cur, place, h4, h5⟩ := h.inv
  exact ⟨h.dk, h.dead, cur, place, h4, h5.mono h1 h2 h3⟩
theorem On1.mono {B : Nat} {w : World} {gl gd : Nat} {d : Dk} {l : Lg} {all : List Rec} {s b q s' b' q' : Nat} (h : On1 B w gl gd d l all s b q) (h1 : s ≤ s') (h2 : b ≤ b') (h3 : q ≤ q') : On1 B w gl gd d l all s' b' q' :=
  ⟨h.log, h.dk, h.inv, h.len, h.bnd.mono h1 h2 h3⟩
/-- Open, its number apart -/
def OpnSt (B gd : Nat) (w : World) (d : Dk) (all : List Rec) (s b q : Nat) (P V : Value) (r : Int) (w' : World) : Prop :=
  FrL B w w' ∧ ((r = 0 ∧ ∃ d' gl l', P = .pointer (some ⟨gl, 0, none⟩) ∧ On1 B w' gl gd d' l' all (s + 1) (b + 1) q ∧ RecsAt B w' V all) ∨ (∃ d', d.left ≠ 0 ∧ Off1 B w' gd d' all (s + 1) (b + 1) q))
theorem open_st (B gd : Nat) (d : Dk) (all : List Rec) (s b q : Nat) (w : World) (hd : DAt B w gd d) (hi : Idle d) (hC : ∃ cur place, C d.now cur place all ∧ Bnd cur s b q) (hs : s < top) (hb : b < top) (hq : q < top) :
    Calls Tryd.prog 11 #[.pointer (some ⟨gd, 0, none⟩)] w fun e w' => ∃ P V r, e = .returned (.tuple #[P, V, .int .i64 r]) ∧ OpnSt B gd w d all s b q P V r w' := by
  obtain ⟨cur, place, hC, hbn⟩ := hC
  refine (open_pw B gd d cur place all s b q w hd hi hC hbn hs hb hq).mono fun e w' hp => ?_
  obtain ⟨hf, ⟨d', gl, v, l', h1, h2, h3⟩ | ⟨d', h1, h2, h3⟩⟩ := hp
  · exact ⟨_, _, 0, h1, hf, .inl ⟨rfl, d', gl, l', rfl, h2, h3⟩⟩
  · exact ⟨_, _, 20, h2, hf, .inr ⟨d', h1, h3⟩⟩
/-- the power comes back -/
structure CI (B : Nat) (w0 w : World) (gd : Nat) (d : Dk) (all2 all : List Rec) (va : Value) (s b q : Nat) : Prop where
  dk : DAt B w gd d
  idle : Idle d
  inv : ∃ cur place, C d.now cur place all2 ∧ Bnd cur s b q
  recs : RecsAt B w va all
  bel : Below B w0 w
theorem CF.on {B : Nat} {w0 w w' : World} {gd : Nat} {d : Dk} {all2 all : List Rec} {va : Value} {s b q : Nat} (h : CF B w0 w gd d all2 all va s b q) (hd : DAt B w' gd d.on) (hf : FrS B w w') : CI B w0 w' gd d.on all2 all va s b q := by
  obtain ⟨i1, i2, i3⟩ := h.off.dead.on
  exact ⟨hd, i1, by rw [i2]; exact h.off.inv, h.recs.frL hf.toL, h.bel.trans hf.bel⟩
theorem CI.step {B : Nat} {w0 w w' : World} {gd : Nat} {d : Dk} {all2 all : List Rec} {va : Value} {s b q : Nat} (h : CI B w0 w gd d all2 all va s b q) (hb : Below w.heap.size w w') : CI B w0 w' gd d all2 all va s b q :=
  ⟨h.dk.step hb, h.idle, h.inv, h.recs.step hb, h.bel.trans (hb.mono h.dk.lt)⟩
theorem CI.cut {B : Nat} {w0 w w' : World} {gd : Nat} {d : Dk} {all2 all : List Rec} {va : Value} {s b q : Nat} {n k : Int} (h : CI B w0 w gd d all2 all va s b q) (hd : DAt B w' gd (d.cut n k)) (hf : FrS B w w') : CI B w0 w' gd (d.cut n k) all2 all va s b q := by
  obtain ⟨i1, i2⟩ := h.idle.cut n k
  exact ⟨hd, i1, by rw [i2]; exact h.inv, h.recs.frL hf.toL, h.bel.trans hf.bel⟩
/-- what is known while the power comes back: nx cuts are used up -/
def Back (B : Nat) (w0 : World) (gd : Nat) (all2 all : List Rec) (va : Value) (nc i nx gk : Nat) (P V : Value) (r : Int) (w : World) : Prop :=
  (∃ d, CF B w0 w gd d all2 all va (3 + 2 * i + nx) (1 + i + nx) (i + 1) ∧ nc < nx + gk) ∨
  (∃ d gl l, P = .pointer (some ⟨gl, 0, none⟩) ∧ r = 0 ∧ CW B w0 w gl gd d l all2 V (4 + 2 * i + nx) (2 + i + nx) (i + 1) ∧ RecsAt B w va all)
theorem CI.opened {B : Nat} {w0 w w' : World} {gd : Nat} {d : Dk} {all2 all : List Rec} {va : Value} {nc i nx nx' gk : Nat} {P V : Value} {r : Int} (h : CI B w0 w gd d all2 all va (3 + 2 * i + nx) (1 + i + nx) (i + 1)) (ho : OpnSt B gd w d all2 (3 + 2 * i + nx) (1 + i + nx) (i + 1) P V r w')
    (hl : d.left ≠ 0 → nx + 1 ≤ nx' ∧ nc < nx' + gk) (hn : nx ≤ nx') : Back B w0 gd all2 all va nc i nx' gk P V r w' := by
  obtain ⟨hf, ⟨rfl, d', gl, l', rfl, h1, h2⟩ | ⟨d', h1, h2⟩⟩ := ho
  · exact .inr ⟨d', gl, l', rfl, rfl, ⟨h1.mono (by omega) (by omega) (Nat.le_refl _), h2, h.bel.trans hf.bel⟩, h.recs.frL hf⟩
  · obtain ⟨h3, h4⟩ := hl h1
    exact .inl ⟨d', ⟨h2.mono (by omega) (by omega) (Nat.le_refl _), h.recs.frL hf, h.bel.trans hf.bel⟩, h4⟩
theorem alike_any (B : Nat) (a b : List Rec) (r : Bool) (hr : alikeB a b = r) (va vb : Value) (w : World) (ha : RecsAt B w va a) (hb : RecsAt B w vb b) (hla : a.length ≤ 1000000000) :
    Calls Tryd.prog 22 #[va, vb] w fun e w' => e = .returned (.bool r) ∧ Below w.heap.size w w' := by
  subst hr; exact alike_calls B a b va vb w ha hb hla
theorem withoutI_same {all : List Rec} {id : Int} (h : (withoutI all id).length = all.length) : withoutI all id = all := by
  unfold withoutI at h ⊢
  exact List.filter_eq_self.2 (List.length_filter_eq_length_iff.1 h)
theorem own_new {w4 w5 w7 : World} {B e n sz g : Nat} {v : Value} {xs : List Value} (h4 : w4.ownsRow B e sz v n xs) (h5 : w5.ownsRow B e sz v n xs) (hg : w5.grownBy w7 (some g)) (hge : w4.heap.size ≤ g) : w7.ownsRow B e sz v n xs := by
  obtain ⟨h1, h2⟩ := h5
  refine ⟨h1, ?_⟩
  rcases h2 with h2 | ⟨k, cap, row, rfl, hB, hr, hn, hm, hs, ht⟩
  · exact .inl h2
  · refine .inr ⟨k, cap, row, rfl, hB, ?_, hn, hm, hs, ht⟩
    have hk : k < w4.heap.size := by
      rcases h4.2 with ⟨h6, _⟩ | ⟨k', _, _, e', _, hr', _⟩
      · cases h6
      · injection e' with e1
        injection e1 with e1
        injection e1 with e1 _ _
        subst e1
        exact blk_lt hr'
    rw [hg.block k (blk_lt hr) (fun e => by injection e with e; omega)]
    exact hr
theorem On1.own {B : Nat} {w w' : World} {gl gd g : Nat} {d : Dk} {l : Lg} {all : List Rec} {s b q : Nat} {cs : Array Value} (h : On1 B w gl gd d l all s b q) (hr : w.heap[g]? = some (.cells cs 34 (0, 0))) (hg : w.grownBy w' (some g)) : On1 B w' gl gd d l all s b q := by
  have hk := types_blk hr hg
  obtain ⟨vS, hl⟩ := h.log
  exact ⟨⟨_, hk _ _ _ _ (by decide) hl.blk, own_keep hl.segs (fun k cs f hr => hk _ _ _ _ (by decide) hr), hl.ge⟩, h.dk.keepT hk (by decide) (by decide) (by decide), h.inv, h.len, h.bnd⟩
theorem Off1.own {B : Nat} {w w' : World} {gd g : Nat} {d : Dk} {all : List Rec} {s b q : Nat} {cs : Array Value} (h : Off1 B w gd d all s b q) (hr : w.heap[g]? = some (.cells cs 34 (0, 0))) (hg : w.grownBy w' (some g)) : Off1 B w' gd d all s b q :=
  ⟨h.dk.keepT (types_blk hr hg) (by decide) (by decide) (by decide), h.dead, h.inv⟩
theorem On1.app {B : Nat} {w w' : World} {gl gd n : Nat} {d : Dk} {l : Lg} {all : List Rec} {s b q : Nat} {v' : Value} {xs : List Value} {B' : Nat} (h : On1 B w gl gd d l all s b q) (ha : App w w' B' 34 3 v' n xs) : On1 B w' gl gd d l all s b q := by
  obtain ⟨vS, hl⟩ := h.log
  exact ⟨⟨_, ha.keep _ _ _ _ (by decide) hl.blk, own_keep hl.segs (fun k cs f hr => ha.keep _ _ _ _ (by decide) hr), hl.ge⟩, h.dk.keepT ha.keep (by decide) (by decide) (by decide), h.inv, h.len, h.bnd⟩
/-- the records ahead of the last one -/
theorem RecsAt.front {B : Nat} {w : World} {A : Option Addr} {n c : Nat} {l : List Rec} {x : Rec} (h : RecsAt B w (.slice A n c) (l ++ [x])) : RecsAt B w (.slice A l.length c) l := by
  obtain ⟨h1, h2⟩ := h
  rcases h2 with ⟨h2, h3⟩ | ⟨k, cap, row, e, hB, hr, hn, hm, hs, ht⟩
  · rw [List.length_append] at h3; simp at h3
  · injection e with e1 e2 e3
    subst e1 e3
    refine ⟨flatR_length l, .inr ⟨k, _, row, rfl, hB, hr, by rw [List.length_append] at hn; omega, hm, hs, ?_⟩⟩
    have e : (flatR (l ++ [x])).take (l.length * 3) = flatR l := by
      rw [flatR_app, List.take_append_of_le_length (by rw [flatR_length]; omega), List.take_of_length_le (by rw [flatR_length]; omega)]
    rw [← e, ← ht, List.take_take, Nat.min_eq_left (by rw [List.length_append]; omega)]
theorem CW.frl {B : Nat} {w0 w w' : World} {gl gd : Nat} {d : Dk} {l : Lg} {all : List Rec} {va : Value} {s b q : Nat} (h : CW B w0 w gl gd d l all va s b q) (hf : FrL B w w') : RecsAt B w' va all ∧ Below B w0 w' := ⟨h.recs.frL hf, h.bel.trans hf.bel⟩
end Go.Proofs.YtfiocakhgpdlfaaDoor.Sg
