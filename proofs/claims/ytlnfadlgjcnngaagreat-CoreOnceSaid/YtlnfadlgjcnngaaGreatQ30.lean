/- Check at any name: strings.IndexAny of a slash and a nought at any short text. -/
import Derived.Test.YtlnfadlgjcnngaaGreatQ16
import Derived.Test.YtlnfadlgjcnngaaGreatSg
import Derived.Laws.RangeString
import Derived.WalkMore
namespace Go.Proofs.YtlnfadlgjcnngaaGreat.Co
open Go.RowKit Go.Maps Go.Lib Go.Proofs.YtlnfadlgjcnngaaGreat.Ap Go.Proofs.YtlnfadlgjcnngaaGreatW.PrintWords Go.Proofs.YtlnfadlgjcnngaaGreatW.PrintLast Go.Proofs.YtlnfadlgjcnngaaGreatW.PrintMore
set_option linter.unusedVariables false
set_option linter.unusedSimpArgs false

theorem get_at (s : ByteArray) (k : Nat) (h : k < s.size) : s.get! k = s[k]'h := by
  simp [ByteArray.get!, getElem!_pos, h]
  rfl
/-- what stands where no ASCII byte does -/
theorem decode_hi (s : ByteArray) (pos : Nat) (h : pos < s.size) (ha : 128 ≤ (s[pos]'h).toNat) :
    1 ≤ (Utf8.decode s pos).2 ∧ pos + (Utf8.decode s pos).2 ≤ s.size ∧ 128 ≤ (Utf8.decode s pos).1 ∧ Utf8.valid (Utf8.decode s pos).1 = true ∧ ∀ k, k < (Utf8.decode s pos).2 → ∃ hk : pos + k < s.size, 128 ≤ (s[pos + k]'hk).toNat := by
  have g0 : s.get! (pos + 0) = s[pos]'h := get_at s pos h
  have one : 1 ≤ 1 ∧ pos + 1 ≤ s.size ∧ 128 ≤ Utf8.runeError ∧ Utf8.valid Utf8.runeError = true ∧ ∀ k, k < 1 → ∃ hk : pos + k < s.size, 128 ≤ (s[pos + k]'hk).toNat :=
    ⟨Nat.le_refl _, h, by decide, by decide, fun k hk => by obtain rfl : k = 0 := by omega
                                                            exact ⟨h, ha⟩⟩
  have hc : ∀ k, (decide (pos + k < s.size) && (s.get! (pos + k)).toNat / 64 == 2) = true → ∃ hk : pos + k < s.size, 128 ≤ (s[pos + k]'hk).toNat := fun k hk => by
    simp only [Bool.and_eq_true, decide_eq_true_eq, beq_iff_eq] at hk
    obtain ⟨h1, h2⟩ := hk
    rw [get_at s _ h1] at h2
    exact ⟨h1, by omega⟩
  unfold Utf8.decode
  simp only [g0]
  have e0 : ¬ (s[pos]'h).toNat < 128 := by omega
  rw [if_neg e0]
  split
  · rename_i h1
    simp only [Bool.and_eq_true, beq_iff_eq] at h1
    obtain ⟨-, h1⟩ := h1
    obtain ⟨k1, b1⟩ := hc 1 (by simpa using h1)
    split
    · rename_i hr
      refine ⟨by omega, by omega, hr, ?_, fun k hk => ?_⟩
      · have : s[pos].toNat % 32 * 64 + (s.get! (pos + 1)).toNat % 64 < 2048 := by omega
        simp only [Utf8.valid, Bool.or_eq_true, Bool.and_eq_true, decide_eq_true_eq]
        left; omega
      · have : k = 0 ∨ k = 1 := by omega
        rcases this with rfl | rfl
        · exact ⟨h, ha⟩
        · exact ⟨k1, b1⟩
    · exact one
  · split
    · rename_i h1
      simp only [Bool.and_eq_true, beq_iff_eq] at h1
      obtain ⟨⟨-, h1⟩, h2⟩ := h1
      obtain ⟨k1, b1⟩ := hc 1 (by simpa using h1)
      obtain ⟨k2, b2⟩ := hc 2 (by simpa using h2)
      split
      · rename_i hr
        simp only [ge_iff_le, Bool.and_eq_true, decide_eq_true_eq] at hr
        refine ⟨by omega, by omega, Nat.le_trans (by decide) hr.1, hr.2, fun k hk => ?_⟩
        have : k = 0 ∨ k = 1 ∨ k = 2 := by omega
        rcases this with rfl | rfl | rfl
        · exact ⟨h, ha⟩
        · exact ⟨k1, b1⟩
        · exact ⟨k2, b2⟩
      · exact one
    · split
      · rename_i h1
        simp only [Bool.and_eq_true, beq_iff_eq] at h1
        obtain ⟨⟨⟨-, h1⟩, h2⟩, h3⟩ := h1
        obtain ⟨k1, b1⟩ := hc 1 (by simpa using h1)
        obtain ⟨k2, b2⟩ := hc 2 (by simpa using h2)
        obtain ⟨k3, b3⟩ := hc 3 (by simpa using h3)
        split
        · rename_i hr
          simp only [ge_iff_le, Bool.and_eq_true, decide_eq_true_eq] at hr
          refine ⟨by omega, by omega, Nat.le_trans (by decide) hr.1, hr.2, fun k hk => ?_⟩
          have : k = 0 ∨ k = 1 ∨ k = 2 ∨ k = 3 := by omega
          rcases this with rfl | rfl | rfl | rfl
          · exact ⟨h, ha⟩
          · exact ⟨k1, b1⟩
          · exact ⟨k2, b2⟩
          · exact ⟨k3, b3⟩
        · exact one
      · exact one
/-- a rune that is no ASCII, as bytes -/
theorem encode_hi (r : Nat) (h : 128 ≤ r) (hv : Utf8.valid r = true) : (∃ a b : UInt8, Utf8.encode r = ⟨#[a, b]⟩ ∧ 128 ≤ b.toNat) ∨ (Utf8.encode r).size = 3 ∨ (Utf8.encode r).size = 4 := by
  unfold Utf8.encode
  simp only [hv, if_true, Int.toNat_natCast]
  rw [if_neg (by omega)]
  split
  · refine .inl ⟨_, _, rfl, ?_⟩
    rw [UInt8.toNat_ofNat']
    have : (128 + r % 64) % 256 = 128 + r % 64 := by omega
    omega
  · right
    split <;> simp [ByteArray.size]

theorem valid_rune (r : Nat) (hv : Utf8.valid r = true) : Lib.validRune r = true := by
  simp only [Utf8.valid, Bool.or_eq_true, Bool.and_eq_true, decide_eq_true_eq] at hv
  simp only [Lib.validRune, decide_eq_true_eq]
  omega
set_option maxRecDepth 100000 in
/-- the bad rune is not among a slash and a nought -/
theorem idxrune_bad (w : World) :
    Calls Tryz.prog 159 #[.string ⟨#[47, 0]⟩, .int .i32 65533] w fun e w' => e = .returned (.int .i64 (-1)) ∧ Below w.heap.size w w' := by
  go_enter Tryz.func159, Tryz.ntmps159
  go_upto_region 38 with fail
  go_loopg [5, 6] 2 (fun g _ _ wx => ∃ i : Nat, i + g = 2 ∧ wx = w.iter ⟨#[47, 0]⟩ i)
  case atStart => exact ⟨0, rfl, rfl⟩
  case round =>
    obtain ⟨i, hi, rfl⟩ := hrel
    rcases (show i = 0 ∨ i = 1 ∨ i = 2 by omega) with rfl | rfl | rfl
    · obtain rfl : gk = 1 + 1 := by omega
      have hnx := fun ty => run_next_ascii (P := Tryz.prog) w ⟨#[47, 0]⟩ 0 ty (by decide) (by decide)
      go_wp2_with fail
      go_roundg 1
      case measure => omega
      case rel => exact ⟨1, rfl, rfl⟩
    · obtain rfl : gk = 0 + 1 := by omega
      have hnx := fun ty => run_next_ascii (P := Tryz.prog) w ⟨#[47, 0]⟩ 1 ty (by decide) (by decide)
      go_wp2_with fail
      go_roundg 0
      case measure => omega
      case rel => exact ⟨2, rfl, rfl⟩
    · have hnx := fun ty => run_next_end (P := Tryz.prog) w ⟨#[47, 0]⟩ 2 ty (by decide)
      go_wp2_with fail
      go_ret
      exact ⟨rfl, below_alloc (Below.refl _ _) _⟩
set_option maxRecDepth 100000 in
/-- a rune that is no ASCII is not among a slash and a nought -/
theorem idxrune_hi (r : Nat) (w : World) (h : 128 ≤ r) (hv : Utf8.valid r = true) :
    Calls Tryz.prog 159 #[.string ⟨#[47, 0]⟩, .int .i32 r] w fun e w' => e = .returned (.int .i64 (-1)) ∧ Below w.heap.size w w' := by
  by_cases hb : r = 65533
  · subst hb; exact idxrune_bad w
  have h1 : ¬ (r : Int) < 128 := by omega
  have h2 : ((r : Int) == 65533) = false := beq_eq_false_iff_ne.2 (by omega)
  have hvr : ∀ w, Calls Tryz.prog 200 #[.int .i32 r] w fun e w' => e = .returned (.bool true) ∧ w = w' := fun w => by
    refine (Tryz.utf8_ValidRune r w).mono ?_
    rintro e w' ⟨rfl, rfl⟩
    exact ⟨by rw [valid_rune r hv], rfl⟩
  obtain ⟨rs, hrs⟩ : ∃ rs, Utf8.encode (r : Int) = rs := ⟨_, rfl⟩
  have he := encode_hi r h hv
  rw [hrs] at he
  rcases he with ⟨a, b, hab, hb2⟩ | he
  · obtain ⟨ch, hch⟩ : ∃ ch : ByteArray, ch = ⟨#[47, 0]⟩ := ⟨_, rfl⟩
    have c2 : (ch.size : Int) = 2 := by rw [hch]; rfl
    have hc1 : 1 < ch.size := by omega
    have c1 : ch[1]'hc1 = 0 := by subst hch; rfl
    have r2 : (rs.size : Int) = 2 := by rw [hab]; rfl
    have hr1 : 1 < rs.size := by omega
    have r1 : rs[1]'hr1 = b := by subst hab; rfl
    have hne : ((0 : Int) != (b.toNat : Int)) = true := by
      rw [bne_iff_ne]
      omega
    have hcx : (ch.extract 2 ch.size).data.toList = [] := by rw [hch]; decide
    have hib : indexByte (ch.extract 2 ch.size).data.toList b = -1 := by rw [hcx]; rfl
    have hIB : ∀ (x : ByteArray) w, x = ch.extract 2 ch.size → Calls Tryz.prog 199 #[.string x, .int .u8 b.toNat] w fun e w' => e = .returned (.int .i64 (-1)) ∧ w = w' := fun x w hx => by
      refine (Tryz.strings_IndexByte x b.toNat w).mono ?_
      rintro e w' ⟨rfl, rfl⟩
      refine ⟨?_, rfl⟩
      rw [hx, show ((b.toNat : Int).toNat.toUInt8 : UInt8) = b by simp, hib]
    have HE := Lib.hid (And.intro hrs hIB)
    clear hIB
    rw [← hch]
    clear hv hb hab hch hcx hib hrs hb2
    go_enter Tryz.func159, Tryz.ntmps159
    go_upto_region 1 with (first
      | (go_at_call 200; (with_reducible refine (hvr _).mono ?_); rintro e1 w1 ⟨rfl, rfl⟩))
    have hrs := HE.out.1
    go_step3
    go_wp2_with fail
    go_loopg [9, 10] 1 (fun gk s9 s10 wr => s9 = .int .i64 1 ∧ s10 = .int .i64 0 ∧ w = wr)
    case atStart => exact ⟨rfl, rfl, rfl⟩
    case round =>
      obtain ⟨rfl, rfl, rfl⟩ := hrel
      go_wp2_with fail
      go_step3
      go_wp2_with fail
      go_region
      rw [Exit.then]
      rename_i q1 q2
      refine q2 _ _ ?_
      clear q2
      refine wp_cond_true rfl ?_
      have hIB := HE.out.2
      have hw2 : IntKind.i64.wrap 2 = 2 := rfl
      refine wp_seq ?_
      go_region_with (first | (go_at_call 199; (with_reducible refine (hIB _ _ rfl).mono ?_); rintro e2 w2 ⟨rfl, rfl⟩))
      all_goals
        go_wp2_with fail
        simp only [Exit.inBlock, Exit.then, Exit.noGoto]
        go_ret
        exact ⟨rfl, below_step (Lb.below_drew _) (Lb.below_drew _)⟩
  · rcases he with he | he
    · have hsz : (rs.size : Int) = 3 := by omega
      have HE := Lib.hid hrs
      clear hv hb he
      go_enter Tryz.func159, Tryz.ntmps159
      go_upto_region 1 with (first
        | (go_at_call 200; (with_reducible refine (hvr _).mono ?_); rintro e1 w1 ⟨rfl, rfl⟩))
      have hrs := HE.out
      go_step3
      go_wp2_with fail
      go_loopg [9, 10] 1 (fun gk s9 s10 wr => s9 = .int .i64 2 ∧ s10 = .int .i64 0 ∧ w = wr)
      case atStart => exact ⟨rfl, rfl, rfl⟩
      case round =>
        obtain ⟨rfl, rfl, rfl⟩ := hrel
        go_wp2_with fail
        rw [Exit.noGoto_ret]
        go_ret
        exact ⟨rfl, Below.refl _ _⟩
    · have hsz : (rs.size : Int) = 4 := by omega
      have HE := Lib.hid hrs
      clear hv hb he
      go_enter Tryz.func159, Tryz.ntmps159
      go_upto_region 1 with (first
        | (go_at_call 200; (with_reducible refine (hvr _).mono ?_); rintro e1 w1 ⟨rfl, rfl⟩))
      have hrs := HE.out
      go_step3
      go_wp2_with fail
      go_loopg [9, 10] 1 (fun gk s9 s10 wr => s9 = .int .i64 3 ∧ s10 = .int .i64 0 ∧ w = wr)
      case atStart => exact ⟨rfl, rfl, rfl⟩
      case round =>
        obtain ⟨rfl, rfl, rfl⟩ := hrel
        go_wp2_with fail
        rw [Exit.noGoto_ret]
        go_ret
        exact ⟨rfl, Below.refl _ _⟩
end Go.Proofs.YtlnfadlgjcnngaaGreat.Co
