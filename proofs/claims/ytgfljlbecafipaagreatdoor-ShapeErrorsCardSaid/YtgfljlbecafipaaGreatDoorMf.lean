/- What schema.Decode answers, plainly; a refusal is an error; what is taken whole is laid out as just these bytes. schema.Decode of a form that is one: the value that bytes hold, or the refusal's number. Sizes of what a taker takes; the forms of all procedures, parsed; a value that was taken is laid out. -/
import Derived.Test.YtgfljlbecafipaaGreatDoorMc
import Derived.Test.YtgfljlbecafipaaGreatDoorMd
import Derived.Test.YtgfljlbecafipaaGreatDoorMe
import Derived.Test.YtgfljlbecafipaaGreatDoorMi
namespace Go.Proofs.YtgfljlbecafipaaGreatDoor.Xw
open Go.RowKit Go.Lib Go.Proofs.YtgfljlbecafipaaGreatDoor.PA
set_option linter.unusedVariables false
set_option linter.unusedSimpArgs false

def endE (r : RP) : Int := if r.e = 0 ∧ r.l ≠ [] then 6 else r.e
def dec (xs : List S77) (l : List UInt8) : (List Int × List ByteArray) × Int :=
  if 65536 < l.length then (([], []), 2) else match tkL xs ⟨⟨l, 0⟩, [], []⟩ with
    | .no c => (([], []), c)
    | .ok s => if endE s.r = 0 then ((s.N, s.T), 0) else (([], []), endE s.r)

theorem num_no {s : TP} {x : Int} {r : RP} {c : Int} (h : s.num x r = .no c) : c ≠ 0 := by
  unfold TP.num at h
  split at h
  · cases h
  · rename_i he; injection h with h; rw [← h]; exact fun hh => he (.inl hh)
theorem txt_no {s : TP} {x : List UInt8} {r : RP} {c : Int} (h : s.txt x r = .no c) : c ≠ 0 := by
  unfold TP.txt at h
  split at h
  · cases h
  · rename_i he; injection h with h; rw [← h]; exact fun hh => he (.inl hh)
theorem then_none {x : TR} {f : TP → TR} {c : Int} (h : x.then f = .no c) : x = .no c ∨ ∃ u, x = .ok u ∧ f u = .no c := by
  cases x with
  | ok u => exact .inr ⟨u, rfl, h⟩
  | no d => exact .inl h
theorem star_no (f : TP → TR) (p : Nat) (hf : ∀ s c, f s = .no c → c ≠ 0) (hl : ∀ s u, f s = .ok u → u.r.l.length ≤ s.r.l.length) : ∀ k s c, s.r.l.length < k → star f p k s = .no c → c ≠ 0
  | 0, s, c, hk, h => absurd hk (Nat.not_lt_zero _)
  | k + 1, s, c, hk, h => by
    rw [star] at h
    split at h
    · rename_i hb
      rcases then_none h with h | ⟨u, h1, h2⟩
      · exact hf _ _ h
      · have a := (round_psi (M := 0) (p := p) hb).2
        have b : u.r.l.length ≤ s.r.bool.2.l.length := hl _ _ h1
        exact star_no f p hf hl k u c (by omega) h2
    · split at h
      · cases h
      · rename_i he; injection h with h; rw [← h]; exact fun hh => he (.inl hh)
mutual
theorem tkOne_no : ∀ (x : S77) (s : TP) (c : Int), okS x = true → tkOne x s = .no c → c ≠ 0
  | .mk k n arms, s, c, hok, h => by
    rw [okS] at hok
    simp only [Bool.and_eq_true] at hok
    obtain ⟨⟨⟨ok0, ok1⟩, ok2⟩, okA'⟩ := hok
    rw [tkOne] at h
    split at h
    · exact num_no h
    split at h
    · exact num_no h
    split at h
    · exact num_no h
    split at h
    · exact txt_no h
    split at h
    · exact txt_no h
    split at h
    · rename_i hk
      rcases then_none h with h | ⟨u, h1, h2⟩
      · exact num_no h
      · split at h2
        · exact tkFirst_no arms u c (by intro e; rw [e] at ok1; simp [hk] at ok1) okA' h2
        · cases h2
    split at h
    · rename_i hk
      rcases then_none h with h | ⟨u, h1, h2⟩
      · exact num_no h
      · have hstar : okStar arms = true := by simpa [hk] using ok2
        have hne : arms ≠ [] := by intro e; rw [e] at hstar; simp [okStar] at hstar
        exact star_no _ _ (fun s' c' h' => tkFirst_no arms s' c' hne okA' h') (fun s' u' h' => (tkFirst_psi (cntA arms) arms s' u' (Nat.le_refl _) h').2) _ u c (by omega) h2
    split at h
    · rcases then_none h with h | ⟨u, h1, h2⟩
      · exact num_no h
      · exact tkPick_no arms _ u c okA' h2
    · cases h
theorem tkL_no : ∀ (l : List S77) (s : TP) (c : Int), okL l = true → tkL l s = .no c → c ≠ 0
  | [], s, c, _, h => by rw [tkL] at h; cases h
  | x :: r, s, c, hok, h => by
    replace hok := okL_cons hok
    rw [tkL] at h
    rcases then_none h with h | ⟨u, h1, h2⟩
    · exact tkOne_no x s c hok.1 h
    · exact tkL_no r u c hok.2 h2
theorem tkFirst_no : ∀ (l : List S84) (s : TP) (c : Int), l ≠ [] → okA l = true → tkFirst l s = .no c → c ≠ 0
  | [], s, c, hne, _, h => absurd rfl hne
  | .mk ka aa f :: r, s, c, _, hok, h => by
    replace hok := okA_cons hok
    rw [tkFirst] at h
    exact tkL_no f s c hok.1 h
theorem tkPick_no : ∀ (l : List S84) (x : Int) (s : TP) (c : Int), okA l = true → tkPick l x s = .no c → c ≠ 0
  | [], x, s, c, _, h => by rw [tkPick] at h; injection h with h; rw [← h]; decide
  | .mk ka aa f :: r, x, s, c, hok, h => by
    replace hok := okA_cons hok
    rw [tkPick] at h
    split at h
    · exact tkL_no f s c hok.1 h
    · exact tkPick_no r x s c hok.2 h
end

theorem dec_bad {xs : List S77} {l : List UInt8} (hok : okL xs = true) (h : (dec xs l).2 ≠ 0) : (dec xs l).1 = ([], []) := by
  unfold dec at h ⊢
  split
  · rfl
  · split
    · rfl
    · split
      · rename_i h1 _ _ h2 h3
        rw [if_neg h1, h2] at h
        simp only [if_pos h3] at h
        exact absurd rfl h
      · rfl
theorem dec_rt {xs : List S77} {l : List UInt8} (hok : okL xs = true) (hno : nokL xs = true) (h : (dec xs l).2 = 0) : l.length ≤ 65536 ∧ enc (dec xs l).1.1 (dec xs l).1.2 xs = (⟨l.toArray⟩, 0) := by
  unfold dec at h ⊢
  by_cases h1 : 65536 < l.length
  · rw [if_pos h1] at h; cases h
  · rw [if_neg h1] at h ⊢
    refine ⟨by omega, ?_⟩
    cases ht : tkL xs ⟨⟨l, 0⟩, [], []⟩ with
    | no c =>
      rw [ht] at h
      exact absurd h (tkL_no xs _ c hok ht)
    | ok s =>
      rw [ht] at h
      obtain ⟨r1, bs, N2, T2, e1, e2, e3, e4⟩ := tkL_rt xs hok hno ⟨⟨l, 0⟩, [], []⟩ s rfl (by show l.length ≤ _; omega) ht
      have hs : endE s.r = 0 := by
        by_cases hs : endE s.r = 0
        · exact hs
        · simp only [if_neg hs] at h; exact absurd h hs
      have hl : s.r.l = [] := by
        unfold endE at hs
        by_cases hl : s.r.l = []
        · exact hl
        · rw [if_pos ⟨r1, hl⟩] at hs; cases hs
      simp only [if_pos hs]
      have e1' : l = bs ++ s.r.l := e1
      rw [hl, List.append_nil] at e1'
      have e2' : s.N = N2 := by rw [e2]; rfl
      have e3' : s.T = T2 := by rw [e3]; rfl
      have hlay := e4 s.N s.T lp0 [] [] (by rw [e2', List.append_nil]; rfl) (by rw [e3', List.append_nil]; rfl) (by show 0 + bs.length ≤ _; rw [← e1']; omega)
      have hlay' : layL s.N s.T xs lp0 = some ⟨[] ++ bs, 0 + N2.length, 0 + T2.length, 0 + bs.length⟩ := hlay
      unfold enc
      rw [hlay']
      simp only [List.nil_append, Nat.zero_add]
      rw [if_neg (by rw [e2', e3']; omega), if_neg (by rw [← e1']; omega), ← e1']
end Go.Proofs.YtgfljlbecafipaaGreatDoor.Xw

namespace Go.Proofs.YtgfljlbecafipaaGreatDoor.Xw
open Go.RowKit Go.Lib Go.Proofs.YtgfljlbecafipaaGreatDoor.PA Go.Proofs.YtgfljlbecafipaaGreatDoorW.PrintWords Go.Proofs.YtgfljlbecafipaaGreatDoorW.PrintLast Go.Proofs.YtgfljlbecafipaaGreatDoorW.PrintMore
set_option linter.unusedVariables false
set_option linter.unusedSimpArgs false

structure DecRes (w : World) (r : (List Int × List ByteArray) × Int) (e : Ending) (w' : World) : Prop where
  ex : ∃ vN vT, e = .returned (.tuple #[.agg #[vN, vT], .int .i64 r.2]) ∧ w'.ownsRow w.heap.size 3 1 vN r.1.1.length (r.1.1.map (Value.int .i64)) ∧ w'.ownsRow w.heap.size 9 1 vT r.1.2.length (r.1.2.map Value.string)
  bel : Below w.heap.size w w'
theorem own_nil (w : World) (B e : Nat) : w.ownsRow B e 1 (.slice none 0 0) 0 [] := ⟨rfl, .inl ⟨rfl, rfl⟩⟩
theorem own_lower {w : World} {B B' e n : Nat} {v : Value} {xs : List Value} (h : w.ownsRow B e 1 v n xs) (hB : B' ≤ B) : w.ownsRow B' e 1 v n xs := by
  obtain ⟨h1, h2⟩ := h
  refine ⟨h1, ?_⟩
  rcases h2 with h2 | ⟨k, cap, row, e2, hge, rest⟩
  · exact .inl h2
  · exact .inr ⟨k, cap, row, e2, Nat.le_trans hB hge, rest⟩

set_option maxRecDepth 100000 in
set_option maxHeartbeats 8000000 in
theorem decode_calls (k M : Nat) (l0 : ByteArray) (xs : List S77) (hp : schema_parse.f k l0 = some (xs, 0)) (hok : okL xs = true) (hno : nokL xs = true) (hM : cntL xs ≤ M) (hM2 : M ≤ 1000000) (l : List UInt8) (w : World) :
    Calls Tryz.prog 7 #[.string l0, .string ⟨l.toArray⟩] w fun e w' => DecRes w (dec xs l) e w' := by
  have HP := Aside0.mk hp
  have hb0 : Below w.heap.size w (w.alloc (.cells #[.slice none 0 0, .slice none 0 0] 28)) := below_alloc (Below.refl _ _) _
  have hb1 := Aside0.mk (below_alloc hb0 (.cells #[.int .i64 0] 29))
  have hv1 : Aside0 (((w.alloc (.cells #[.slice none 0 0, .slice none 0 0] 28)).alloc (.cells #[.int .i64 0] 29)).heap[w.heap.size]? = some (.cells #[.slice none 0 0, .slice none 0 0] 28 (0, 0))) := ⟨blk_alloc (by simpa using heap_alloc_new w (.cells #[.slice none 0 0, .slice none 0 0] 28)) _⟩
  have he1 : Aside0 (((w.alloc (.cells #[.slice none 0 0, .slice none 0 0] 28)).alloc (.cells #[.int .i64 0] 29)).heap[w.heap.size + 1]? = some (.cells #[.int .i64 0] 29 (0, 0))) := ⟨by simpa using heap_alloc_new (w.alloc (.cells #[.slice none 0 0, .slice none 0 0] 28)) (.cells #[.int .i64 0] 29)⟩
  have hs1 : Aside0 (((w.alloc (.cells #[.slice none 0 0, .slice none 0 0] 28)).alloc (.cells #[.int .i64 0] 29)).heap.size = w.heap.size + 2) := ⟨by simp⟩
  clear hb0 hp
  by_cases hlong : 65536 < l.length
  · have hlb : decide ((l.length : Int) > 65536) = true := decide_eq_true (by omega)
    have hlb2 : decide ((65536 : Int) < (l.length : Int)) = true := decide_eq_true (by omega)
    have hlb3 : decide (65536 < l.length) = true := decide_eq_true hlong
    have HD : Aside0 (dec xs l = (([], []), 2)) := ⟨by unfold dec; rw [if_pos hlong]⟩
    clear hok hno hM hM2 hlong
    go_enter_defers Tryz.func7, Tryz.ntmps7
    go_wp2_with (first
      | (go_at_call 12; (with_reducible refine (schema_parse.calls k l0 xs 0 _ HP.out).mono ?_); rintro e w2 ⟨v0, rfl, ho, hb⟩; obtain ⟨A, c, rfl⟩ := Kd.N_slice ho; have HO2 := Aside0.mk ho; have HV2 := Aside0.mk (Lb.blk_below hv1.out hb); have HE2 := Aside0.mk (Lb.blk_below he1.out hb); have HB2 := Aside0.mk (hb1.out.trans (hb.mono (by have := hs1.out; omega))); have HS2 : Aside0 (w.heap.size + 2 ≤ w2.heap.size) := ⟨by have := hs1.out; have := hb.size; omega⟩; have hce := (blk_cell HE2.out 0).trans rfl; have hfe := blk_frozen HE2.out 0; clear ho hb)
      | ((with_reducible refine gate_store (t := 29) (p := 5) rfl ?_); refine Lb.store_one rfl rfl 29 (.tmp 5) (.tmp 13) rfl (u := .int .i64 0) rfl rfl rfl rfl HE2.out (by kernel_rfl) (by simp) ?_; intro w3 hb3 hg3; have HV3 := Aside0.mk (Lb.blk_grown' HV2.out hg3 (by omega)); have HE3 : Aside0 (w3.heap[w.heap.size + 1]? = some (.cells #[.int .i64 0] 29 (0, 0))) := ⟨hb3⟩; have HC3 : Aside0 (Kd.C k77 w3 A xs.length xs) := ⟨(Kd.N_reads' (Kd.N_grown HO2.out hg3 (fun k_ hk_ e => by injection e with e; have := hs1.out; omega))).2.2⟩; have HB3 : Aside0 (Below w.heap.size w w3) := ⟨Lb.grown_below HB2.out hg3 (by have := HS2.out; omega) (by omega)⟩; have HS3 : Aside0 (w.heap.size + 2 ≤ w3.heap.size) := ⟨by have := HS2.out; have := hg3.size; omega⟩; clear hb3 hg3 hce hfe; have hce := (blk_cell HE3.out 0).trans rfl; have hfe := blk_frozen HE3.out 0)
      | ((with_reducible refine gate_store (t := 28) (p := 4) rfl ?_); refine Lb.store_whole rfl rfl 28 (.tmp 4) (.tmp 23) rfl (new := #[.slice none 0 0, .slice none 0 0]) rfl rfl HV3.out rfl (by kernel_rfl) (by simp [Value.oneCell']) ?_; intro w7 hb7 hg7; have HV7 := Aside0.mk hb7; have HG7 := Aside0.mk hg7; have HE7 := Aside0.mk (Lb.blk_grown' HE3.out hg7 (by omega)); have HB7 := Aside0.mk (Lb.grown_below HB3.out hg7 (by have := blk_lt HV3.out; omega) (Nat.le_refl _)); have hce7 := (blk_cell HE7.out 0).trans rfl; clear hb7 hg7; clear hce hfe)
      | ((with_reducible refine gate_store (t := 29) (p := 5) rfl ?_); refine Lb.store_one rfl rfl 29 (.tmp 5) (.const (.int .i64 2)) rfl (u := .int .i64 2) rfl rfl rfl rfl HE7.out (by kernel_rfl) (by simp) ?_; intro w8 hb8 hg8; have HE8 := Aside0.mk hb8; have HG8 := Aside0.mk hg8; have HV8 := Aside0.mk (Lb.blk_grown' HV7.out hg8 (by omega)); have HB8 := Aside0.mk (Lb.grown_below HB7.out hg8 (by have := blk_lt HE7.out; have := HB7.out.size; omega) (by omega)); clear hb8 hg8))
    have hv0 := (blk_cell HV8.out 0).trans rfl
    have hv1' := (blk_cell HV8.out 1).trans rfl
    have he0 := (blk_cell HE8.out 0).trans rfl
    show Leaves Tryz.prog _ _ _ [] .returning _
    refine ⟨.tuple #[.agg #[.slice none 0 0, .slice none 0 0], .int .i64 2], by simp [results, Tryz.results7, go_sem, hv0, hv1', he0], ?_⟩
    rw [HD.out]
    exact ⟨⟨_, _, rfl, own_nil _ _ _, own_nil _ _ _⟩, HB8.out⟩
  · have HTK : Aside0 (∀ (W : World) (A : Option Addr) (c : Nat), Kd.C k77 W A xs.length xs → ∀ g gr W4, Below W.heap.size W W4 → TIs W.heap.size W4 g gr ⟨⟨l, 0⟩, [], []⟩ → Calls Tryz.prog 15 #[.pointer (some ⟨g, 0, none⟩), .slice A xs.length c] W4 fun e w' => FrT W.heap.size W4 w' ∧ TakeRes W.heap.size g gr (tkL xs ⟨⟨l, 0⟩, [], []⟩) e w') :=
      ⟨fun W A c hC g gr W4 hb4 hL => ttake_calls W.heap.size W M (Nat.le_refl _) (SizeOf.sizeOf xs) xs (Nat.le_refl _) A c g gr ⟨⟨l, 0⟩, [], []⟩ W4 hC hb4 hL hok hno hM (by
        have h1 : M * l.length ≤ 1000000 * 65536 := Nat.mul_le_mul hM2 (by omega)
        show 0 + 0 + M * l.length + cntL xs ≤ _
        omega) (by show l.length ≤ _; omega)⟩
    have hlb : decide ((l.length : Int) > 65536) = false := decide_eq_false (by omega)
    have hlb2 : decide ((65536 : Int) < (l.length : Int)) = false := decide_eq_false (by omega)
    have hlb3 : decide (65536 < l.length) = false := decide_eq_false hlong
    have HTNO : Aside0 (∀ c, tkL xs ⟨⟨l, 0⟩, [], []⟩ = .no c → c ≠ 0) := ⟨fun c => tkL_no xs _ c hok⟩
    clear hok hno hM hM2
    cases ht : tkL xs ⟨⟨l, 0⟩, [], []⟩ with
    | no c7 =>
      have HT := Aside0.mk ht
      have HD : Aside0 (dec xs l = (([], []), c7)) := ⟨by unfold dec; rw [if_neg hlong, ht]⟩
      clear ht hlong
      go_enter_defers Tryz.func7, Tryz.ntmps7
      go_wp2_with (first
      | (go_at_call 12; (with_reducible refine (schema_parse.calls k l0 xs 0 _ HP.out).mono ?_); rintro e w2 ⟨v0, rfl, ho, hb⟩; obtain ⟨A, c, rfl⟩ := Kd.N_slice ho; have HO2 := Aside0.mk ho; have HV2 := Aside0.mk (Lb.blk_below hv1.out hb); have HE2 := Aside0.mk (Lb.blk_below he1.out hb); have HB2 := Aside0.mk (hb1.out.trans (hb.mono (by have := hs1.out; omega))); have HS2 : Aside0 (w.heap.size + 2 ≤ w2.heap.size) := ⟨by have := hs1.out; have := hb.size; omega⟩; have hce := (blk_cell HE2.out 0).trans rfl; have hfe := blk_frozen HE2.out 0; clear ho hb)
      | ((with_reducible refine gate_store (t := 29) (p := 5) rfl ?_); refine Lb.store_one rfl rfl 29 (.tmp 5) (.tmp 13) rfl (u := .int .i64 0) rfl rfl rfl rfl HE2.out (by kernel_rfl) (by simp) ?_; intro w3 hb3 hg3; have HV3 := Aside0.mk (Lb.blk_grown' HV2.out hg3 (by omega)); have HE3 : Aside0 (w3.heap[w.heap.size + 1]? = some (.cells #[.int .i64 0] 29 (0, 0))) := ⟨hb3⟩; have HC3 : Aside0 (Kd.C k77 w3 A xs.length xs) := ⟨(Kd.N_reads' (Kd.N_grown HO2.out hg3 (fun k_ hk_ e => by injection e with e; have := hs1.out; omega))).2.2⟩; have HB3 : Aside0 (Below w.heap.size w w3) := ⟨Lb.grown_below HB2.out hg3 (by have := HS2.out; omega) (by omega)⟩; have HS3 : Aside0 (w.heap.size + 2 ≤ w3.heap.size) := ⟨by have := HS2.out; have := hg3.size; omega⟩; clear hb3 hg3 hce hfe; have hce := (blk_cell HE3.out 0).trans rfl; have hfe := blk_frozen HE3.out 0)
      | (go_at_call 13; (with_reducible refine (open_calls l w3).mono ?_); rintro e w4 ⟨gr, rfl, hgr, hrs, hb4⟩; have HR4 := Aside0.mk hrs; have HB4 := Aside0.mk hb4; have HGR := Aside0.mk hgr; clear hgr hrs hb4)
      | ((with_reducible refine gate_dst (N := 27) rfl ?_); refine box_event ?hg (N := 27) ?hd (cs := #[.pointer (some ⟨gr, 0, none⟩), .slice none 0 0, .slice none 0 0]) (t := 48) ?hr ?_; (case hd => rfl); (case hg => rfl); (case hr => first | (go_simp; done) | (go_simp; rfl)); intro gl hgl w5 hx5 hb5; have HL5 : Aside0 (TIs w3.heap.size w5 gl gr ⟨⟨l, 0⟩, [], []⟩) := ⟨⟨⟨.slice none 0 0, .slice none 0 0, hx5, ⟨rfl, .inl ⟨rfl, rfl⟩⟩, ⟨rfl, .inl ⟨rfl, rfl⟩⟩⟩, Lb.blk_below HR4.out hb5, Nat.le_trans HB4.out.size (by omega), HGR.out⟩⟩; have HB5 := Aside0.mk (HB4.out.trans (hb5.mono HB4.out.size)); clear hx5 hb5 hgl)
      | (go_at_call 15; (with_reducible refine (HTK.out w3 A c HC3.out gl gr w5 HB5.out HL5.out).mono ?_); rintro e w6 ⟨hfr, hres⟩; have hb6 := HB5.out.trans hfr.bel; have HV6 := Aside0.mk (blk_keep hb6 HV3.out (by have := HS3.out; omega)); have HE6 := Aside0.mk (blk_keep hb6 HE3.out (by have := HS3.out; omega)); have HB36 := Aside0.mk hb6; have HB6 := Aside0.mk (HB3.out.trans (hb6.mono (by have := HS3.out; omega))); clear hce hfe; have he := hres.no HT.out; unfold bad at he; subst he; clear hfr hres hb6))
      refine leaves_cons (f := 14) (args := #[.pointer (some ⟨w.heap.size + 1, 0, none⟩)]) (by simp) (by simp [go_sem]) ?_
      refine (catch_refused ⟨w.heap.size + 1, 0, none⟩ (.int .i64 0) c7 [] _ ((blk_cell HE6.out 0).trans rfl) (blk_frozen HE6.out 0)).mono ?_
      rintro e u' w'' ⟨rfl, rfl, rfl⟩
      have hvx := Lb.blk_grown' HV6.out (Lb.setCell_grown w6 (w.heap.size + 1) 0 _ _ (.int .i64 c7) HE6.out) (by omega)
      have hex := Lb.setCell_block w6 (w.heap.size + 1) 0 _ _ (.int .i64 c7) HE6.out
      have hv0 := (blk_cell hvx 0).trans rfl
      have hv1' := (blk_cell hvx 1).trans rfl
      have he0 := (blk_cell hex 0).trans rfl
      show Leaves Tryz.prog _ _ _ [] .returning _
      refine ⟨.tuple #[.agg #[.slice none 0 0, .slice none 0 0], .int .i64 c7], by simp [results, Tryz.results7, go_sem, hv0, hv1', he0], ?_⟩
      rw [HD.out]
      exact ⟨⟨_, _, rfl, own_nil _ _ _, own_nil _ _ _⟩, below_set HB6.out (by show _ ≤ w.heap.size + 1; omega)⟩
    | ok s =>
      have HT := Aside0.mk ht
      by_cases hz : endE s.r = 0
      · have HD : Aside0 (dec xs l = ((s.N, s.T), 0)) := ⟨by unfold dec; rw [if_neg hlong, ht]; simp only [if_pos hz]⟩
        have HZ := Aside0.mk hz
        clear ht hlong hz
        go_enter_defers Tryz.func7, Tryz.ntmps7
        go_wp2_with (first
      | (go_at_call 12; (with_reducible refine (schema_parse.calls k l0 xs 0 _ HP.out).mono ?_); rintro e w2 ⟨v0, rfl, ho, hb⟩; obtain ⟨A, c, rfl⟩ := Kd.N_slice ho; have HO2 := Aside0.mk ho; have HV2 := Aside0.mk (Lb.blk_below hv1.out hb); have HE2 := Aside0.mk (Lb.blk_below he1.out hb); have HB2 := Aside0.mk (hb1.out.trans (hb.mono (by have := hs1.out; omega))); have HS2 : Aside0 (w.heap.size + 2 ≤ w2.heap.size) := ⟨by have := hs1.out; have := hb.size; omega⟩; have hce := (blk_cell HE2.out 0).trans rfl; have hfe := blk_frozen HE2.out 0; clear ho hb)
      | ((with_reducible refine gate_store (t := 29) (p := 5) rfl ?_); refine Lb.store_one rfl rfl 29 (.tmp 5) (.tmp 13) rfl (u := .int .i64 0) rfl rfl rfl rfl HE2.out (by kernel_rfl) (by simp) ?_; intro w3 hb3 hg3; have HV3 := Aside0.mk (Lb.blk_grown' HV2.out hg3 (by omega)); have HE3 : Aside0 (w3.heap[w.heap.size + 1]? = some (.cells #[.int .i64 0] 29 (0, 0))) := ⟨hb3⟩; have HC3 : Aside0 (Kd.C k77 w3 A xs.length xs) := ⟨(Kd.N_reads' (Kd.N_grown HO2.out hg3 (fun k_ hk_ e => by injection e with e; have := hs1.out; omega))).2.2⟩; have HB3 : Aside0 (Below w.heap.size w w3) := ⟨Lb.grown_below HB2.out hg3 (by have := HS2.out; omega) (by omega)⟩; have HS3 : Aside0 (w.heap.size + 2 ≤ w3.heap.size) := ⟨by have := HS2.out; have := hg3.size; omega⟩; clear hb3 hg3 hce hfe; have hce := (blk_cell HE3.out 0).trans rfl; have hfe := blk_frozen HE3.out 0)
      | (go_at_call 13; (with_reducible refine (open_calls l w3).mono ?_); rintro e w4 ⟨gr, rfl, hgr, hrs, hb4⟩; have HR4 := Aside0.mk hrs; have HB4 := Aside0.mk hb4; have HGR := Aside0.mk hgr; clear hgr hrs hb4)
      | ((with_reducible refine gate_dst (N := 27) rfl ?_); refine box_event ?hg (N := 27) ?hd (cs := #[.pointer (some ⟨gr, 0, none⟩), .slice none 0 0, .slice none 0 0]) (t := 48) ?hr ?_; (case hd => rfl); (case hg => rfl); (case hr => first | (go_simp; done) | (go_simp; rfl)); intro gl hgl w5 hx5 hb5; have HL5 : Aside0 (TIs w3.heap.size w5 gl gr ⟨⟨l, 0⟩, [], []⟩) := ⟨⟨⟨.slice none 0 0, .slice none 0 0, hx5, ⟨rfl, .inl ⟨rfl, rfl⟩⟩, ⟨rfl, .inl ⟨rfl, rfl⟩⟩⟩, Lb.blk_below HR4.out hb5, Nat.le_trans HB4.out.size (by omega), HGR.out⟩⟩; have HB5 := Aside0.mk (HB4.out.trans (hb5.mono HB4.out.size)); clear hx5 hb5 hgl)
      | (go_at_call 15; (with_reducible refine (HTK.out w3 A c HC3.out gl gr w5 HB5.out HL5.out).mono ?_); rintro e w6 ⟨hfr, hres⟩; have hb6 := HB5.out.trans hfr.bel; have HV6 := Aside0.mk (blk_keep hb6 HV3.out (by have := HS3.out; omega)); have HE6 := Aside0.mk (blk_keep hb6 HE3.out (by have := HS3.out; omega)); have HB36 := Aside0.mk hb6; have HB6 := Aside0.mk (HB3.out.trans (hb6.mono (by have := HS3.out; omega))); clear hce hfe; obtain ⟨he, hl6⟩ := hres.yes HT.out; subst he; have HL6 := Aside0.mk hl6; have c06 := hl6.c0; obtain ⟨vN0, vT0, k1, k2, k3⟩ := hl6.ex; obtain ⟨AN, cN, rfl⟩ := own_open k2; obtain ⟨AT, cT, rfl⟩ := own_open k3; have c16 := (blk_cell k1 1).trans rfl; have c26 := (blk_cell k1 2).trans rfl; have K2 := Aside0.mk k2; have K3 := Aside0.mk k3; clear hl6 k1 k2 k3; clear hfr hres hb6)
      | (go_at_call 16; (with_reducible refine (end_calls gr s.r w6 HL6.out.rd).mono ?_); rintro e w61 ⟨he, rfl⟩; rw [show (if s.r.e = 0 ∧ s.r.l ≠ [] then 6 else s.r.e) = (0 : Int) from HZ.out] at he; subst he)
      | ((with_reducible refine gate_store (t := 28) (p := 4) rfl ?_); refine Lb.store_whole rfl rfl 28 (.tmp 4) (.tmp 43) rfl (new := #[.slice AN s.N.length cN, .slice AT s.T.length cT]) rfl rfl HV6.out rfl (by kernel_rfl) (by simp [Value.oneCell']) ?_; intro w7 hb7 hg7; have HV7 := Aside0.mk hb7; have HG7 := Aside0.mk hg7; have HE7 := Aside0.mk (Lb.blk_grown' HE6.out hg7 (by omega)); have HB7 := Aside0.mk (Lb.grown_below HB6.out hg7 (by have := blk_lt HV6.out; omega) (Nat.le_refl _)); have hce7 := (blk_cell HE7.out 0).trans rfl; clear hb7 hg7)
      | ((with_reducible refine gate_store (t := 29) (p := 5) rfl ?_); refine Lb.store_one rfl rfl 29 (.tmp 5) (.const (.int .i64 0)) rfl (u := .int .i64 0) rfl rfl rfl rfl HE7.out (by kernel_rfl) (by simp) ?_; intro w8 hb8 hg8; have HE8 := Aside0.mk hb8; have HG8 := Aside0.mk hg8; have HV8 := Aside0.mk (Lb.blk_grown' HV7.out hg8 (by omega)); have HB8 := Aside0.mk (Lb.grown_below HB7.out hg8 (by have := blk_lt HE7.out; have := HB7.out.size; omega) (by omega)); clear hb8 hg8))
        refine leaves_cons (f := 14) (args := #[.pointer (some ⟨w.heap.size + 1, 0, none⟩)]) (by simp) (by simp [go_sem]) ?_
        refine (catch_idle ⟨w.heap.size + 1, 0, none⟩ _).mono ?_
        rintro e u' w'' ⟨rfl, rfl, rfl⟩
        have hv0 := (blk_cell HV8.out 0).trans rfl
        have hv1' := (blk_cell HV8.out 1).trans rfl
        have he0 := (blk_cell HE8.out 0).trans rfl
        show Leaves Tryz.prog _ _ _ [] .returning _
        refine ⟨.tuple #[.agg #[.slice AN s.N.length cN, .slice AT s.T.length cT], .int .i64 0], by simp [results, Tryz.results7, go_sem, hv0, hv1', he0], ?_⟩
        rw [HD.out]
        have hT7 := types_grown HV6.out HG7.out
        have hT8 := types_grown HE7.out HG8.out
        refine ⟨⟨_, _, rfl, ?_, ?_⟩, HB8.out⟩
        · exact own_lower (ownT (ownT K2.out (fun k cur hk => hT7 _ _ _ _ (by decide) hk)) (fun k cur hk => hT8 _ _ _ _ (by decide) hk)) (by have := HS3.out; omega)
        · exact own_lower (ownT (ownT K3.out (fun k cur hk => hT7 _ _ _ _ (by decide) hk)) (fun k cur hk => hT8 _ _ _ _ (by decide) hk)) (by have := HS3.out; omega)
      · have HD : Aside0 (dec xs l = (([], []), endE s.r)) := ⟨by unfold dec; rw [if_neg hlong, ht]; simp only [if_neg hz]⟩
        obtain ⟨y, hy⟩ : ∃ y, y = endE s.r := ⟨_, rfl⟩
        rw [← hy] at hz HD
        have hzb : (y != 0) = true := by simp [hz]
        have HZ := Aside0.mk hy
        clear ht hlong hz hy
        go_enter_defers Tryz.func7, Tryz.ntmps7
        go_wp2_with (first
      | (go_at_call 12; (with_reducible refine (schema_parse.calls k l0 xs 0 _ HP.out).mono ?_); rintro e w2 ⟨v0, rfl, ho, hb⟩; obtain ⟨A, c, rfl⟩ := Kd.N_slice ho; have HO2 := Aside0.mk ho; have HV2 := Aside0.mk (Lb.blk_below hv1.out hb); have HE2 := Aside0.mk (Lb.blk_below he1.out hb); have HB2 := Aside0.mk (hb1.out.trans (hb.mono (by have := hs1.out; omega))); have HS2 : Aside0 (w.heap.size + 2 ≤ w2.heap.size) := ⟨by have := hs1.out; have := hb.size; omega⟩; have hce := (blk_cell HE2.out 0).trans rfl; have hfe := blk_frozen HE2.out 0; clear ho hb)
      | ((with_reducible refine gate_store (t := 29) (p := 5) rfl ?_); refine Lb.store_one rfl rfl 29 (.tmp 5) (.tmp 13) rfl (u := .int .i64 0) rfl rfl rfl rfl HE2.out (by kernel_rfl) (by simp) ?_; intro w3 hb3 hg3; have HV3 := Aside0.mk (Lb.blk_grown' HV2.out hg3 (by omega)); have HE3 : Aside0 (w3.heap[w.heap.size + 1]? = some (.cells #[.int .i64 0] 29 (0, 0))) := ⟨hb3⟩; have HC3 : Aside0 (Kd.C k77 w3 A xs.length xs) := ⟨(Kd.N_reads' (Kd.N_grown HO2.out hg3 (fun k_ hk_ e => by injection e with e; have := hs1.out; omega))).2.2⟩; have HB3 : Aside0 (Below w.heap.size w w3) := ⟨Lb.grown_below HB2.out hg3 (by have := HS2.out; omega) (by omega)⟩; have HS3 : Aside0 (w.heap.size + 2 ≤ w3.heap.size) := ⟨by have := HS2.out; have := hg3.size; omega⟩; clear hb3 hg3 hce hfe; have hce := (blk_cell HE3.out 0).trans rfl; have hfe := blk_frozen HE3.out 0)
      | (go_at_call 13; (with_reducible refine (open_calls l w3).mono ?_); rintro e w4 ⟨gr, rfl, hgr, hrs, hb4⟩; have HR4 := Aside0.mk hrs; have HB4 := Aside0.mk hb4; have HGR := Aside0.mk hgr; clear hgr hrs hb4)
      | ((with_reducible refine gate_dst (N := 27) rfl ?_); refine box_event ?hg (N := 27) ?hd (cs := #[.pointer (some ⟨gr, 0, none⟩), .slice none 0 0, .slice none 0 0]) (t := 48) ?hr ?_; (case hd => rfl); (case hg => rfl); (case hr => first | (go_simp; done) | (go_simp; rfl)); intro gl hgl w5 hx5 hb5; have HL5 : Aside0 (TIs w3.heap.size w5 gl gr ⟨⟨l, 0⟩, [], []⟩) := ⟨⟨⟨.slice none 0 0, .slice none 0 0, hx5, ⟨rfl, .inl ⟨rfl, rfl⟩⟩, ⟨rfl, .inl ⟨rfl, rfl⟩⟩⟩, Lb.blk_below HR4.out hb5, Nat.le_trans HB4.out.size (by omega), HGR.out⟩⟩; have HB5 := Aside0.mk (HB4.out.trans (hb5.mono HB4.out.size)); clear hx5 hb5 hgl)
      | (go_at_call 15; (with_reducible refine (HTK.out w3 A c HC3.out gl gr w5 HB5.out HL5.out).mono ?_); rintro e w6 ⟨hfr, hres⟩; have hb6 := HB5.out.trans hfr.bel; have HV6 := Aside0.mk (blk_keep hb6 HV3.out (by have := HS3.out; omega)); have HE6 := Aside0.mk (blk_keep hb6 HE3.out (by have := HS3.out; omega)); have HB36 := Aside0.mk hb6; have HB6 := Aside0.mk (HB3.out.trans (hb6.mono (by have := HS3.out; omega))); clear hce hfe; obtain ⟨he, hl6⟩ := hres.yes HT.out; subst he; have HL6 := Aside0.mk hl6; have c06 := hl6.c0; clear hl6; clear hfr hres hb6)
      | (go_at_call 16; (with_reducible refine (end_calls gr s.r w6 HL6.out.rd).mono ?_); rintro e w61 ⟨he, rfl⟩; rw [show (if s.r.e = 0 ∧ s.r.l ≠ [] then 6 else s.r.e) = y from HZ.out.symm] at he; subst he)
      | ((with_reducible refine gate_store (t := 28) (p := 4) rfl ?_); refine Lb.store_whole rfl rfl 28 (.tmp 4) (.tmp 38) rfl (new := #[.slice none 0 0, .slice none 0 0]) rfl rfl HV6.out rfl (by kernel_rfl) (by simp [Value.oneCell']) ?_; intro w7 hb7 hg7; have HV7 := Aside0.mk hb7; have HG7 := Aside0.mk hg7; have HE7 := Aside0.mk (Lb.blk_grown' HE6.out hg7 (by omega)); have HB7 := Aside0.mk (Lb.grown_below HB6.out hg7 (by have := blk_lt HV6.out; omega) (Nat.le_refl _)); have hce7 := (blk_cell HE7.out 0).trans rfl; clear hb7 hg7)
      | ((with_reducible refine gate_store (t := 29) (p := 5) rfl ?_); refine Lb.store_one rfl rfl 29 (.tmp 5) (.tmp 39) rfl (u := .int .i64 y) rfl rfl rfl rfl HE7.out (by kernel_rfl) (by simp) ?_; intro w8 hb8 hg8; have HE8 := Aside0.mk hb8; have HG8 := Aside0.mk hg8; have HV8 := Aside0.mk (Lb.blk_grown' HV7.out hg8 (by omega)); have HB8 := Aside0.mk (Lb.grown_below HB7.out hg8 (by have := blk_lt HE7.out; have := HB7.out.size; omega) (by omega)); clear hb8 hg8))
        refine leaves_cons (f := 14) (args := #[.pointer (some ⟨w.heap.size + 1, 0, none⟩)]) (by simp) (by simp [go_sem]) ?_
        refine (catch_idle ⟨w.heap.size + 1, 0, none⟩ _).mono ?_
        rintro e u' w'' ⟨rfl, rfl, rfl⟩
        have hv0 := (blk_cell HV8.out 0).trans rfl
        have hv1' := (blk_cell HV8.out 1).trans rfl
        have he0 := (blk_cell HE8.out 0).trans rfl
        show Leaves Tryz.prog _ _ _ [] .returning _
        refine ⟨.tuple #[.agg #[.slice none 0 0, .slice none 0 0], .int .i64 y], by simp [results, Tryz.results7, go_sem, hv0, hv1', he0], ?_⟩
        rw [HD.out]
        exact ⟨⟨_, _, rfl, own_nil _ _ _, own_nil _ _ _⟩, HB8.out⟩
end Go.Proofs.YtgfljlbecafipaaGreatDoor.Xw

namespace Go.Proofs.YtgfljlbecafipaaGreatDoor.Xw
open Go.RowKit Go.Lib Go.Proofs.YtgfljlbecafipaaGreatDoor.PA Go.Proofs.YtgfljlbecafipaaGreatDoorW.PrintWords Go.Proofs.YtgfljlbecafipaaGreatDoorW.PrintLast Go.Proofs.YtgfljlbecafipaaGreatDoorW.PrintMore
set_option linter.unusedVariables false
set_option linter.unusedSimpArgs false

theorem fixed_len (s : RP) (n : Nat) : (s.fixed n).1.length ≤ n := by
  unfold RP.fixed
  split
  · split
    · show List.length (List.take n _) ≤ n
      simp; omega
    · exact Nat.zero_le _
  · exact Nat.zero_le _
theorem opq_len (s : RP) (m : Int) : (s.opq m).1.length ≤ 4294967295 := by
  unfold RP.opq
  split
  · exact Nat.zero_le _
  · have := uint_bd s
    exact Nat.le_trans (fixed_len _ _) (by omega)
def smallT (s : TP) : Prop := ∀ x ∈ s.T, x.size ≤ 4294967295
theorem num_small {s u : TP} {x : Int} {r : RP} (h : s.num x r = .ok u) (hs : smallT s) : smallT u := by
  obtain ⟨_, rfl⟩ := num_ok h
  exact hs
theorem txt_small {s u : TP} {x : List UInt8} {r : RP} (h : s.txt x r = .ok u) (hx : x.length ≤ 4294967295) (hs : smallT s) : smallT u := by
  obtain ⟨_, rfl⟩ := txt_ok h
  intro y hy
  rcases List.mem_append.1 (show y ∈ s.T ++ [⟨x.toArray⟩] from hy) with hy | hy
  · exact hs y hy
  · rw [List.mem_singleton] at hy
    subst hy
    show x.toArray.size ≤ _
    simpa using hx
theorem star_small (f : TP → TR) (p : Nat) (hf : ∀ s u, f s = .ok u → smallT s → smallT u) : ∀ k s u, star f p k s = .ok u → smallT s → smallT u
  | 0, s, u, h, _ => by cases h
  | k + 1, s, u, h, hs => by
    rw [star] at h
    split at h
    · obtain ⟨s1, h1, h2⟩ := TR.then_some h
      exact star_small f p hf k s1 u h2 (hf _ _ h1 hs)
    · split at h
      · injection h with h
        subst h
        exact hs
      · cases h
mutual
theorem tkOne_small : ∀ (x : S77) (s u : TP), nokS x = true → tkOne x s = .ok u → smallT s → smallT u
  | .mk k n arms, s, u, hno, h, hs => by
    rw [nokS] at hno
    simp only [Bool.and_eq_true, decide_eq_true_eq] at hno
    obtain ⟨⟨no0, no1⟩, noA⟩ := hno
    rw [tkOne] at h
    split at h
    · exact num_small h hs
    split at h
    · exact num_small h hs
    split at h
    · exact num_small h hs
    split at h
    · exact txt_small h (opq_len _ _) hs
    split at h
    · exact txt_small h (Nat.le_trans (fixed_len _ _) (by omega)) hs
    split at h
    · obtain ⟨s1, h1, h2⟩ := TR.then_some h
      split at h2
      · exact tkFirst_small arms s1 u noA h2 (num_small h1 hs)
      · injection h2 with h2; subst h2; exact num_small h1 hs
    split at h
    · obtain ⟨s1, h1, h2⟩ := TR.then_some h
      exact star_small _ _ (fun s' u' hu hs' => tkFirst_small arms s' u' noA hu hs') _ s1 u h2 (num_small h1 hs)
    split at h
    · obtain ⟨s1, h1, h2⟩ := TR.then_some h
      exact tkPick_small arms _ s1 u noA h2 (num_small h1 hs)
    · injection h with h; subst h; exact hs
theorem tkL_small : ∀ (l : List S77) (s u : TP), nokL l = true → tkL l s = .ok u → smallT s → smallT u
  | [], s, u, _, h, hs => by rw [tkL] at h; injection h with h; subst h; exact hs
  | x :: r, s, u, hno, h, hs => by
    rw [nokL, Bool.and_eq_true] at hno
    rw [tkL] at h
    obtain ⟨s1, h1, h2⟩ := TR.then_some h
    exact tkL_small r s1 u hno.2 h2 (tkOne_small x s s1 hno.1 h1 hs)
theorem tkFirst_small : ∀ (l : List S84) (s u : TP), nokA l = true → tkFirst l s = .ok u → smallT s → smallT u
  | [], s, u, _, h, _ => by rw [tkFirst] at h; cases h
  | .mk ka aa f :: r, s, u, hno, h, hs => by
    rw [nokA, Bool.and_eq_true] at hno
    rw [tkFirst] at h
    exact tkL_small f s u hno.1 h hs
theorem tkPick_small : ∀ (l : List S84) (x : Int) (s u : TP), nokA l = true → tkPick l x s = .ok u → smallT s → smallT u
  | [], x, s, u, _, h, _ => by rw [tkPick] at h; cases h
  | .mk ka aa f :: r, x, s, u, hno, h, hs => by
    rw [nokA, Bool.and_eq_true] at hno
    rw [tkPick] at h
    split at h
    · exact tkL_small f s u hno.1 h hs
    · exact tkPick_small r x s u hno.2 h hs
end
theorem tsum_le : ∀ (T : List ByteArray), (∀ x ∈ T, x.size ≤ 4294967295) → tsum T ≤ T.length * 4294967307
  | [], _ => Nat.zero_le _
  | x :: r, h => by
    have h1 := h x (List.mem_cons_self ..)
    have h2 := tsum_le r (fun y hy => h y (List.mem_cons_of_mem _ hy))
    rw [tsum, List.length_cons, Nat.add_mul]
    omega
theorem dec_room {xs : List S77} {l : List UInt8} {N : List Int} {T : List ByteArray} (hno : nokL xs = true) (hM : cntL xs ≤ 1000) (h : dec xs l = ((N, T), 0)) (hne : ∀ c, tkL xs ⟨⟨l, 0⟩, [], []⟩ = .no c → c ≠ 0) : N.length ≤ 1000000000 ∧ T.length ≤ 1000000000 ∧ phi N T lp0 ≤ 4000000000000000000 := by
  unfold dec at h
  by_cases h1 : 65536 < l.length
  · rw [if_pos h1] at h; cases h
  · rw [if_neg h1] at h
    cases ht : tkL xs ⟨⟨l, 0⟩, [], []⟩ with
    | no c =>
      rw [ht] at h
      simp only [Prod.mk.injEq] at h
      exact absurd h.2 (hne c ht)
    | ok s =>
      rw [ht] at h
      simp only at h
      split at h
      · simp only [Prod.mk.injEq] at h
        obtain ⟨⟨rfl, rfl⟩, _⟩ := h
        have a := (tkL_psi 1000 xs _ s hM ht).1
        have b := tkL_small xs _ s hno ht (fun x hx => by cases hx)
        have c := tsum_le s.T b
        have e : psi 1000 ⟨⟨l, 0⟩, [], []⟩ = 1000 * l.length := by show 0 + 0 + 1000 * l.length = _; omega
        rw [e] at a
        have d : s.N.length + s.T.length ≤ psi 1000 s := Nat.le_add_right _ _
        have hT : s.T.length ≤ 65537000 := by omega
        have f : s.T.length * 4294967307 ≤ 65537000 * 4294967307 := Nat.mul_le_mul_right _ hT
        refine ⟨by omega, by omega, ?_⟩
        show 0 + 12 * (s.N.length - 0) + tsum (s.T.drop 0) ≤ _
        rw [List.drop_zero]
        omega
      · rename_i hz
        simp only [Prod.mk.injEq] at h
        exact absurd h.2 hz

/-- a form that is one, with its signs -/
def goodF (l : ByteArray) : Bool := match PA.schema_parse.f 200 l with
  | some (xs, r) => r == 0 && okL xs && nokL xs && decide (cntL xs ≤ 1000)
  | none => false
structure Good (l : ByteArray) (xs : List S77) : Prop where
  parse : PA.schema_parse.f 200 l = some (xs, 0)
  ok : okL xs = true
  nok : nokL xs = true
  cnt : cntL xs ≤ 1000
theorem good_of {l : ByteArray} (h : goodF l = true) : ∃ xs, Good l xs := by
  unfold goodF at h
  split at h
  · rename_i xs r hr
    simp only [Bool.and_eq_true, decide_eq_true_eq, beq_iff_eq] at h
    obtain ⟨⟨⟨rfl, h1⟩, h2⟩, h3⟩ := h
    exact ⟨xs, hr, h1, h2, h3⟩
  · cases h
theorem own_rowAt {w : World} {B e n : Nat} {v : Value} {xs : List Value} (h : w.ownsRow B e 1 v n xs) : ∃ A cap, v = .slice A n cap ∧ RowAt w A xs := by
  obtain ⟨h1, h2⟩ := h
  rcases h2 with ⟨rfl, h3⟩ | ⟨k, cap, row, rfl, hk, hr, hn, hm, hs, ht⟩
  · refine ⟨none, 0, by rw [h3], fun i v hv => ?_⟩
    have : xs = [] := List.eq_nil_of_length_eq_zero (by rw [h1, h3])
    rw [this] at hv
    simp at hv
  · refine ⟨_, cap, rfl, fun i v hv => ⟨_, rfl, ?_⟩⟩
    have e2 : (⟨k, 0, none⟩ : Addr).add i = ⟨k, i, none⟩ := by unfold Addr.add; split <;> simp_all
    have hi : i < xs.length := (List.getElem?_eq_some_iff.1 hv).1
    rw [e2, blk_cell hr i, ← Array.getElem?_toList]
    have h3 : (row.toList.take (n * 1))[i]? = xs[i]? := by rw [ht]
    rw [List.getElem?_take, if_pos (by omega)] at h3
    rw [h3, hv]

theorem forms_good (g p : Int) : goodF ⟨(Mo.ofF g p).1.toArray⟩ = true ∧ goodF ⟨(Mo.ofF g p).2.1.toArray⟩ = true := by
  by_cases h3 : g = 100003 ∧ 1 ≤ p ∧ p < 22
  · obtain ⟨rfl, h1, h2⟩ := h3
    obtain ⟨n, rfl⟩ : ∃ n : Nat, p = n := ⟨p.toNat, by omega⟩
    have hb := (List.all_eq_true.1 (show ((List.range 22).all fun n => goodF ⟨(Mo.ofF 100003 n).1.toArray⟩ && goodF ⟨(Mo.ofF 100003 n).2.1.toArray⟩) = true by kernel_rfl)) n (List.mem_range.2 (by omega))
    exact Bool.and_eq_true_iff.1 hb
  · by_cases h5 : g = 100005 ∧ 1 ≤ p ∧ p < 6
    · obtain ⟨rfl, h1, h2⟩ := h5
      obtain ⟨n, rfl⟩ : ∃ n : Nat, p = n := ⟨p.toNat, by omega⟩
      have hb := (List.all_eq_true.1 (show ((List.range 6).all fun n => goodF ⟨(Mo.ofF 100005 n).1.toArray⟩ && goodF ⟨(Mo.ofF 100005 n).2.1.toArray⟩) = true by kernel_rfl)) n (List.mem_range.2 (by omega))
      exact Bool.and_eq_true_iff.1 hb
    · have e0 : Mo.ofF g p = ([], [], decide (p = 0 ∧ (g = 100003 ∨ g = 100005))) := by
        rw [Mo.ofF, Mo.rawOf, if_neg h3, if_neg h5]
        show (Rb.wr [], Rb.wr [], _) = _
        rw [show Rb.wr [] = [] by kernel_rfl]
      rw [e0]
      have e : goodF ⟨#[]⟩ = true := by kernel_rfl
      exact ⟨e, e⟩
end Go.Proofs.YtgfljlbecafipaaGreatDoor.Xw
