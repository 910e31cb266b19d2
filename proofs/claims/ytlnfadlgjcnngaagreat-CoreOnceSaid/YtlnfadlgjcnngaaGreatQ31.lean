/- Check at any name. -/
import Derived.Test.YtlnfadlgjcnngaaGreatQ30
namespace Go.Proofs.YtlnfadlgjcnngaaGreat.Co
open Go.RowKit Go.Maps Go.Lib Go.Proofs.YtlnfadlgjcnngaaGreat.Ap Go.Proofs.YtlnfadlgjcnngaaGreatW.PrintWords Go.Proofs.YtlnfadlgjcnngaaGreatW.PrintLast Go.Proofs.YtlnfadlgjcnngaaGreatW.PrintMore
set_option linter.unusedVariables false
set_option linter.unusedSimpArgs false

/-- a world with another object in a block -/
def putO (w : World) (p : Nat) (o : Obj) : World := { w with heap := w.heap.setIfInBounds p o }
theorem run_next_gen (P : Program) (wx : World) (p : Nat) (s : ByteArray) (pos : Nat) (ty : TypeId) (hp : wx.heap[p]? = some (.stringIter s pos)) (h : pos < s.size) (r n : Nat) (hd : Utf8.decode s pos = (r, n)) :
    (Instr.next (.pointer (some ⟨p, 0, none⟩)) true ty).run P wx = .ok (.tuple #[.bool true, .int .i64 pos, .int .i32 r]) (putO wx p (.stringIter s (pos + n))) := by
  simp only [Instr.next, getObj, setObj, Sem.run_bind, Sem.run, hp, Result.andThen, h, if_true, hd]
  simp [goInt, Sem.run, hp, putO]
theorem run_next_over (P : Program) (wx : World) (p : Nat) (s : ByteArray) (pos : Nat) (ty : TypeId) (hp : wx.heap[p]? = some (.stringIter s pos)) (h : ¬ pos < s.size) :
    (Instr.next (.pointer (some ⟨p, 0, none⟩)) true ty).run P wx = .ok (.tuple #[.bool false]) wx := by
  simp [Instr.next, getObj, Sem.run, hp, h]
theorem putO_at {w : World} {p : Nat} {o o' : Obj} (h : w.heap[p]? = some o') : (putO w p o).heap[p]? = some o := by
  have := blk_lt h
  simp [putO, this]
theorem putO_below {w w' : World} {p : Nat} {o : Obj} (h : Below w.heap.size w w') (hp : w.heap.size ≤ p) : Below w.heap.size w (putO w' p o) :=
  ⟨h.os, h.tape, h.output, by simpa [putO] using h.size, fun k hk => by
    rw [← h.block k hk]
    simp only [putO]
    rw [Array.getElem?_setIfInBounds_ne (by omega)]⟩
theorem NoAny.skip {l cs : List UInt8} {i n : Nat} (h : NoAny l cs i) (hc : ∀ x ∈ cs, x.toNat < 128) (hn : ∀ k, k < n → ∃ x, l[i + k]? = some x ∧ 128 ≤ x.toNat) : NoAny l cs (i + n) := by
  induction n with
  | zero => exact h
  | succ n ih =>
    obtain ⟨x, hx, hb⟩ := hn n (Nat.lt_succ_self _)
    refine (ih (fun k hk => hn k (by omega))).succ hx ?_
    cases hcx : cs.contains x
    · rfl
    · have hm : x ∈ cs := by simpa using hcx
      have := hc x hm
      omega
theorem idx_short (s : ByteArray) (w : World) (h8 : s.size ≤ 8) :
    Calls Tryz.prog 135 #[.string s, .string ⟨#[47, 0]⟩] w fun e w' => e = .returned (.int .i64 (Lib.indexAny s.data.toList [47, 0])) ∧ Below w.heap.size w w' := by
  have h8z : decide ((8 : Int) < (s.size : Int)) = false := decide_eq_false (by omega)
  have hcs : ∀ x ∈ ([47, 0] : List UInt8), x.toNat < 128 := by decide
  have HC := Lib.hid hcs
  have HZ := Lib.hid h8z
  clear hcs h8z
  go_enter Tryz.func135, Tryz.ntmps135
  go_wp2_with (go_at_call 160; refine (Tryz.strings_shouldUseASCIISet _ _).mono ?_; rintro e w' ⟨rfl, hw⟩; rw [hw, HZ.out])
  go_loopg [9, 10] s.size (fun g _ _ wx => ∃ i : Nat, s.size ≤ i + g ∧ i ≤ s.size ∧ Aside0 (Below w.heap.size w wx) ∧ Aside0 (wx.heap[w.heap.size]? = some (.stringIter s i)) ∧ Aside0 (Lib.NoAny s.data.toList [47, 0] i))
  case atStart => exact ⟨0, by omega, by omega, ⟨below_alloc (Below.refl _ _) _⟩, ⟨World.iter_heap _ _ _⟩, ⟨Lib.NoAny.zero _ _⟩⟩
  case round =>
    obtain ⟨i, hig, hil, HB, HI, HN⟩ := hrel
    by_cases hi : i < s.size
    · obtain ⟨g, rfl⟩ : ∃ g, gk = g + 1 := ⟨gk - 1, by omega⟩
      obtain ⟨x, hx⟩ : ∃ x : UInt8, s[i]'hi = x := ⟨_, rfl⟩
      have Hx := Lib.hid (show s.data.toList[i]? = some x by rw [← hx]; exact Lib.data_getElem? s i hi)
      by_cases ha : x.toNat < 128
      · have hnx := fun ty => run_next_gen Tryz.prog wr w.heap.size s i ty HI.out hi x.toNat 1 (by rw [← hx]; exact decode_ascii s i hi (by rw [hx]; exact ha))
        have HB1 := Aside0.mk (putO_below (o := .stringIter s (i + 1)) HB.out (Nat.le_refl _))
        have HI1 := Aside0.mk (putO_at (o := .stringIter s (i + 1)) HI.out)
        generalize putO wr w.heap.size (.stringIter s (i + 1)) = w1 at hnx HB1 HI1
        have hcon := Lib.contains_iff_indexByte [47, 0] x
        have hback : ((x.toNat : Int)).toNat.toUInt8 = x := by simp
        have hasc : ∀ w, Calls Tryz.prog 159 #[.string ⟨#[47, 0]⟩, .int .i32 x.toNat] w fun e w' => e = .returned (.int .i64 (Lib.indexByte [47, 0] x)) ∧ w = w' := fun w => by
          refine (Tryz.strings_IndexRune_ascii ⟨#[47, 0]⟩ x.toNat w (by omega) (by omega)).mono ?_
          rintro e w' ⟨rfl, rfl⟩
          exact ⟨by rw [hback], rfl⟩
        have HX := Lib.hid hx
        clear hx ha hback
        cases hin : ([47, 0] : List UInt8).contains x
        · rw [hin] at hcon
          have hlt : ¬ ((0 : Int) ≤ Lib.indexByte [47, 0] x) := of_decide_eq_false hcon.symm
          have HIN := Lib.hid hin
          clear hcon hin
          go_wp2_with (go_at_call 159; (with_reducible refine (hasc _).mono ?_); rintro e w' ⟨rfl, rfl⟩)
          go_roundg g
          case measure => omega
          case rel => exact ⟨i + 1, by omega, by omega, ⟨HB1.out⟩, ⟨HI1.out⟩, ⟨HN.out.succ Hx.out HIN.out⟩⟩
        · rw [hin] at hcon
          have hge : (0 : Int) ≤ Lib.indexByte [47, 0] x := of_decide_eq_true hcon.symm
          have HIN := Lib.hid hin
          clear hcon hin
          go_wp2_with (go_at_call 159; (with_reducible refine (hasc _).mono ?_); rintro e w' ⟨rfl, rfl⟩)
          go_ret
          exact ⟨by rw [Lib.indexAny_hit HN.out Hx.out HIN.out]; rfl, HB1.out⟩
      · have hdh := decode_hi s i hi (by rw [hx]; omega)
        obtain ⟨r, n, hd⟩ : ∃ r n, Utf8.decode s i = (r, n) := ⟨_, _, rfl⟩
        rw [hd] at hdh
        obtain ⟨hn1, hn2, hr, hv, hk⟩ := hdh
        have hnx := fun ty => run_next_gen Tryz.prog wr w.heap.size s i ty HI.out hi r n hd
        have HB1 := Aside0.mk (putO_below (o := .stringIter s (i + n)) HB.out (Nat.le_refl _))
        have HI1 := Aside0.mk (putO_at (o := .stringIter s (i + n)) HI.out)
        generalize putO wr w.heap.size (.stringIter s (i + n)) = w1 at hnx HB1 HI1
        have HK : Aside0 (NoAny s.data.toList [47, 0] (i + n)) := ⟨NoAny.skip HN.out HC.out fun k hk' => by
          obtain ⟨h1, h2⟩ := hk k hk'
          exact ⟨_, Lib.data_getElem? s (i + k) h1, h2⟩⟩
        have HR := Lib.hid (And.intro hr hv)
        have HX := Lib.hid hx
        clear hx ha hk hd hr hv
        go_wp2_with (go_at_call 159; (with_reducible refine (idxrune_hi r _ HR.out.1 HR.out.2).mono ?_); rintro e w2 ⟨rfl, hb⟩; replace HB1 := Aside0.mk (below_step HB1.out hb); replace HI1 := Aside0.mk (Lb.blk_below HI1.out hb); clear hb)
        go_roundg g
        case measure => omega
        case rel => exact ⟨i + n, by omega, by omega, ⟨HB1.out⟩, ⟨HI1.out⟩, ⟨HK.out⟩⟩
    · have hnx := fun ty => run_next_over Tryz.prog wr w.heap.size s i ty HI.out hi
      obtain rfl : i = s.size := by omega
      go_wp2_with fail
      go_ret
      exact ⟨by rw [Lib.indexAny_none (by rw [← Lib.size_eq]; exact HN.out)]; rfl, HB.out⟩
/-- strings.ContainsAny of a slash and a nought, at any text that is no longer than a name -/
theorem any_calls (s : ByteArray) (w : World) (h : s.size ≤ 64) : Calls Tryz.prog 88 #[.string s, .string ⟨#[47, 0]⟩] w fun e w' => e = .returned (.bool (containsAny s.data.toList [47, 0])) ∧ Below w.heap.size w w' := by
  have hix : Calls Tryz.prog 135 #[.string s, .string ⟨#[47, 0]⟩] w fun e w' => e = .returned (.int .i64 (Lib.indexAny s.data.toList [47, 0])) ∧ Below w.heap.size w w' := by
    by_cases h8 : s.size ≤ 8
    · exact idx_short s w h8
    · refine (Tryz.strings_IndexAny_long (fun w => by kernel_rfl) s ⟨#[47, 0]⟩ w (by decide) (by omega) (by omega) (by decide) ?_).mono ?_
      · intro j b hb
        have : b ∈ ([47, 0] : List UInt8) := List.mem_of_getElem? hb
        simp at this
        rcases this with rfl | rfl <;> decide
      · rintro e w' ⟨rfl, rfl⟩
        exact ⟨rfl, below_alloc (below_alloc (Below.refl _ _) _) _⟩
  clear h
  go_enter Tryz.func88, Tryz.ntmps88
  go_wp2_with (go_at_call 135; (with_reducible refine hix.mono ?_); rintro e w' ⟨rfl, hb⟩; have HB := Aside0.mk hb; clear hb)
  go_ret
  exact ⟨rfl, HB.out⟩
theorem good_any (s : ByteArray) (h : chk s = 0) : Good s := by
  unfold chk at h
  split at h
  · exact absurd h (by decide)
  · rename_i hz
    split at h
    · exact absurd h (by decide)
    · rename_i hn
      have e := toList_data s
      refine ⟨by omega, ?_, ?_, ?_, ?_⟩
      · rw [e]; exact fun e => hn (.inl e)
      · rw [e]; exact fun e => hn (.inr (.inl e))
      · rw [e]; exact fun e => hn (.inr (.inr (.inl e)))
      · intro w
        have := any_calls s w (by omega)
        rw [show containsAny s.data.toList [47, 0] = false by cases hc : containsAny s.data.toList [47, 0]
                                                              · rfl
                                                              · exact absurd (.inr (.inr (.inr hc))) hn] at this
        exact this
set_option maxRecDepth 100000 in
theorem check_calls (s : ByteArray) (w : World) : Calls Tryz.prog 44 #[.string s] w fun e w' => e = .returned (.int .i64 (chk s)) ∧ Below w.heap.size w w' := by
  by_cases h0 : chk s = 0
  · rw [h0]; exact check_good s w (good_any s h0)
  · by_cases hz : 64 < s.size
    · have hzi : (64 : Int) < (s.size : Int) := by omega
      have hc : chk s = 63 := by unfold chk; rw [if_pos hz]
      rw [hc]
      clear h0 hz hc
      go_enter Tryz.func44, Tryz.ntmps44
      go_wp2_with fail
      go_ret
      exact ⟨rfl, Below.refl _ _⟩
    · have hzi : ¬ (64 : Int) < (s.size : Int) := by omega
      have hc : chk s = 22 := by
        unfold chk at h0 ⊢
        rw [if_neg hz] at h0 ⊢
        split
        · rfl
        · rename_i hn; rw [if_neg hn] at h0; exact absurd rfl h0
      rw [hc]
      have HA := Lib.hid (any_calls s · (by omega))
      have e := toList_data s
      have hq : s.toList.isEmpty = true ∨ (s.toList == ([46] : List UInt8)) = true ∨ (s.toList == ([46, 46] : List UInt8)) = true ∨ containsAny s.data.toList [47, 0] = true := by
        unfold chk at h0
        rw [if_neg hz] at h0
        rw [e]
        by_cases hn : s.data.toList = [] ∨ s.data.toList = [46] ∨ s.data.toList = [46, 46] ∨ containsAny s.data.toList [47, 0] = true
        · rcases hn with h | h | h | h
          · left; rw [h]; rfl
          · right; left; rw [h]; rfl
          · right; right; left; rw [h]; rfl
          · right; right; right; exact h
        · rw [if_neg hn] at h0; exact absurd rfl h0
      clear h0 hz hc e
      obtain ⟨p0, h0⟩ : ∃ p, s.toList.isEmpty = p := ⟨_, rfl⟩
      obtain ⟨p1, h1⟩ : ∃ p, (s.toList == ([46] : List UInt8)) = p := ⟨_, rfl⟩
      obtain ⟨p2, h2⟩ : ∃ p, (s.toList == ([46, 46] : List UInt8)) = p := ⟨_, rfl⟩
      obtain ⟨p3, h3⟩ : ∃ p, containsAny s.data.toList [47, 0] = p := ⟨_, rfl⟩
      have H3 := Lib.hid h3
      rw [h0, h1, h2, h3] at hq
      clear h3
      cases p0 <;> cases p1 <;> cases p2 <;> cases p3
      all_goals first
        | (exfalso; simp at hq; done)
        | (clear hq
           go_enter Tryz.func44, Tryz.ntmps44
           go_wp2_with (go_at_call 88; (refine (HA.out _).mono ?_); rintro e1 w1 ⟨rfl, hb⟩; rw [H3.out]; have HB := Aside0.mk hb; clear hb)
           go_ret
           exact ⟨rfl, by first | exact HB.out | exact Below.refl _ _⟩)
end Go.Proofs.YtlnfadlgjcnngaaGreat.Co
