/- (*strings.byteStringReplacer).Replace of a string of fewer than eight bytes for each byte that is replaced: what it returns. -/
import Derived.Test.YtgfljlbecafipaaDoorProg
import Derived.Test.YtgfljlbecafipaaDoorLib
import Derived.Lib.SlBuf
import Derived.Laws.IdiomStrings
import Derived.Laws.MakeOwn
import Derived.Laws.Cover3
import Derived.RegionTactic
import Derived.RegionCalls
import Derived.Deep.RegionLaw
import Derived.KernelRfl
namespace Go.Proofs.YtgfljlbecafipaaDoor.Rb
open Go.RowKit Go.Lib Go.Proofs.YtgfljlbecafipaaDoorW.PrintWords Go.Proofs.YtgfljlbecafipaaDoorW.PrintLast Go.Proofs.YtgfljlbecafipaaDoorW.PrintMore
set_option linter.unusedVariables false
set_option linter.unusedSimpArgs false

/-- what a byte becomes -/
def one (T : Nat → Option (List UInt8)) (c : UInt8) : List UInt8 := (T c.toNat).getD [c]
def repl (T : Nat → Option (List UInt8)) (l : List UInt8) : List UInt8 := l.flatMap (one T)
def hits (T : Nat → Option (List UInt8)) (l : List UInt8) : Bool := l.any fun c => (T c.toNat).isSome

theorem repl_append (T : Nat → Option (List UInt8)) (a b : List UInt8) : repl T (a ++ b) = repl T a ++ repl T b := by simp [repl]
theorem hits_append (T : Nat → Option (List UInt8)) (a b : List UInt8) : hits T (a ++ b) = (hits T a || hits T b) := by simp [hits]
theorem repl_none (T : Nat → Option (List UInt8)) : ∀ l : List UInt8, hits T l = false → repl T l = l
  | [], _ => rfl
  | c :: r, h => by
    have h' : (T c.toNat).isSome = false ∧ hits T r = false := by simpa [hits] using h
    have ih := repl_none T r h'.2
    have e : T c.toNat = none := by cases hT : T c.toNat with | none => rfl | some _ => rw [hT] at h'; simp at h'
    show one T c ++ repl T r = _
    rw [ih, one, e]
    rfl

structure Tab (w : World) (g : Nat) (T : Nat → Option (List UInt8)) : Prop where
  no : ∀ c, c < 256 → T c = none → w.cell? ⟨g, c, none⟩ = some (.slice none 0 0)
  yes : ∀ c bs, c < 256 → T c = some bs → ∃ a cap, w.cell? ⟨g, c, none⟩ = some (.slice (some a) bs.length cap) ∧ ∀ (i : Nat) x, bs[i]? = some x → w.cell? (a.add i) = some (.int .u8 (x.toNat : Int))

theorem Buf.put {w0 wr : World} {h N : Nat} {acc : List UInt8} (hb : Buf w0 wr h N acc) (c : UInt8) (hfit : acc.length < N) : Buf w0 (wr.setCell ⟨h, acc.length, none⟩ (.int .u8 (c.toNat : Int))) h N (acc ++ [c]) := by
  have hin := World.cell?_setCells_in h [Value.int .u8 (c.toNat : Int)] acc.length wr (fun j hj => by simp at hj; exact hb.there _ (by omega))
  have hout := World.cell?_setCells_out h [Value.int .u8 (c.toNat : Int)] acc.length wr
  show Buf w0 (wr.setCells h acc.length [Value.int .u8 (c.toNat : Int)]) h N (acc ++ [c])
  refine ⟨below_setCells h (Nat.le_refl _) _ _ hb.below, ?_, ?_, ?_, by simp; omega⟩
  · intro j hj
    by_cases h1 : j = acc.length
    · subst h1
      have := hin 0 (by simp)
      rw [Nat.add_zero] at this
      rw [this]; rfl
    · rw [hout ⟨h, j, none⟩ (fun _ _ => by simp only [List.length_cons, List.length_nil]; show j < _ ∨ _ ≤ j; omega)]
      exact hb.there j hj
  · intro j hj
    rw [World.frozen?_setCells]
    exact hb.free j hj
  · intro j x hx
    by_cases h1 : j < acc.length
    · rw [List.getElem?_append_left h1] at hx
      rw [hout ⟨h, j, none⟩ (fun _ _ => Or.inl h1)]
      exact hb.holds j x hx
    · rw [List.getElem?_append_right (by omega)] at hx
      have hd : j - acc.length = 0 := by have := (List.getElem?_eq_some_iff.1 hx).1; simp at this; omega
      rw [hd] at hx
      simp at hx
      subst hx
      have hj : j = acc.length := by omega
      subst hj
      have := hin 0 (by simp)
      rw [Nat.add_zero] at this
      rw [this]; rfl

theorem Buf.drew {w0 wr : World} {h N : Nat} {acc : List UInt8} (hb : Buf w0 wr h N acc) : Buf w0 wr.drew h N acc where
  below := ⟨hb.below.1, hb.below.2, hb.below.3, hb.below.4, hb.below.5⟩
  there := fun j hj => by rw [World.cell?_drew]; exact hb.there j hj
  free := fun j hj => by rw [World.frozen?_drew]; exact hb.free j hj
  holds := fun j x hx => by rw [World.cell?_drew]; exact hb.holds j x hx
  fits := hb.fits

theorem step_copy_run {P : Program} (w : World) {ops : Array Oper} {o : Oper} {a : Act} {K : Act → World → Prop} {Q : Exit → Act → World → Prop} {E : Prop} (hgd : o.guard = none) (d s : Operand) (t t' : TypeId)
    (ho : o.op = .call { callee := .builtin .copy, args := #[d, s], argTypes := #[t, t'] }) (v u : Value) (hd : a.eval d = v) (hs : a.eval s = u) {v' : Value} {w' : World}
    (hr : (Builtin.copy_ #[t, t'] o.type #[v, u]).run P w = .ok v' w') (h : K (a.put o.dst v') w') : if Region.wanted o (yielded ops a.tmps) = true then Oper.wp P o a w K Q else E := by
  rw [if_pos (show Region.wanted o (yielded ops a.tmps) = true by simp [Region.wanted, hgd])]
  exact Lib.wp_copy_run w d s t t' ho v u hd hs hr h

theorem take_snoc (l : List UInt8) (i : Nat) (h : i < l.length) : l.take (i + 1) = l.take i ++ [l[i]] := List.take_succ_eq_append_getElem h

theorem repl_take_le (T : Nat → Option (List UInt8)) (l : List UInt8) (i : Nat) : (repl T (l.take i)).length ≤ (repl T l).length := by
  have e : repl T l = repl T (l.take i) ++ repl T (l.drop i) := by rw [← repl_append, List.take_append_drop]
  rw [e, List.length_append]
  omega

set_option maxRecDepth 1000000 in
set_option maxHeartbeats 8000000 in
theorem replace_short (g : Nat) (T : Nat → Option (List UInt8)) (s : ByteArray) (A : Option Addr) (n cp : Nat) (w : World) (HT : Tab w g T) (hl : w.cell? ⟨g, 256, none⟩ = some (.slice A n cp)) (hn : s.size < 8 * n) (hn0 : n ≤ 256)
    (hsz : s.size + (repl T s.data.toList).length ≤ 140737488355328) :
    Calls Tryd.prog 106 #[.pointer (some ⟨g, 0, none⟩), .string s] w fun e w' => e = .returned (.string ⟨(repl T s.data.toList).toArray⟩) ∧ Below w.heap.size w w' := by
  obtain ⟨l, hlist⟩ : ∃ l, l = s.data.toList := ⟨_, rfl⟩
  have hlen : s.size = l.length := by rw [hlist]; exact size_eq s
  have hs' : s = ⟨l.toArray⟩ := by rw [hlist]
  rw [← hlist] at hsz ⊢
  have HS := Aside0.mk hs'
  have HTA := Aside0.mk HT
  have HSZ := Aside0.mk hsz
  have HX : Aside0 (∀ (i : Nat) (h : i < l.length) (h' : i < s.size), (s[i]'h').toNat = (l[i]'h).toNat) := ⟨fun i h h' => by subst hlist; rfl⟩
  clear HT hsz hlist hs'
  have hle : decide ((n : Int) * 8 ≤ (s.size : Int)) = false := decide_eq_false (by omega)
  have hw : wrap64 ((n : Int) * 8) = (n : Int) * 8 := by unfold wrap64; omega
  clear hn
  have hnn := fun (a : Option Addr) (l c : Nat) (w : World) => run_neq_slice_nil (P := Tryd.prog) w 83 5 a l c Tryd.underlying83
  have HLEN := Aside0.mk hlen
  clear hlen
  go_enter Tryd.func106, Tryd.ntmps106
  go_wp2
  go_loopg [5, 6, 10] l.length (fun g5 s5 s6 s10 wr => w = wr ∧ ∃ i : Nat, i ≤ l.length ∧ g5 = l.length - i ∧ s10 = .int .i64 i ∧ s5 = .int .i64 (((l.length - i + (repl T (l.take i)).length : Nat) : Int)) ∧ s6 = .bool (hits T (l.take i)))
  case atStart => exact ⟨rfl, 0, Nat.zero_le _, rfl, rfl, by simp [repl, HLEN.out], by simp [hits]⟩
  case round =>
    obtain ⟨rfl, i, hi, rfl, rfl, rfl, rfl⟩ := hrel
    by_cases hlt : i < l.length
    · obtain ⟨c, hc⟩ : ∃ c, c = (l[i]'hlt).toNat := ⟨_, rfl⟩
      have hx : ∀ h : i < s.size, (s[i]'h).toNat = c := fun h => (HX.out i hlt h).trans hc.symm
      have hc256 : c < 256 := by rw [hc]; exact (l[i]'hlt).toNat_lt
      have hlti : (i : Int) < (s.size : Int) := by have := HLEN.out; omega
      have htk := take_snoc l i hlt
      have hrl := repl_take_le T l i
      have hrl1 := repl_take_le T l (i + 1)
      have hr1 : (repl T (l.take (i + 1))).length = (repl T (l.take i)).length + (one T (l[i]'hlt)).length := by rw [htk, repl_append, List.length_append]; simp [repl]
      have hh1 : hits T (l.take (i + 1)) = (hits T (l.take i) || (T c).isSome) := by rw [htk, hits_append, hc]; simp [hits]
      have hSZ := HSZ.out
      have hL := HLEN.out
      clear hL
      have HR1 := Aside0.mk hr1
      have HH1 := Aside0.mk hh1
      have HRL1 := Aside0.mk hrl1
      have HB : Aside0 ((one T (l[i]'hlt)) = (T c).getD [l[i]'hlt]) := ⟨by rw [hc]; rfl⟩
      clear hr1 hh1 hrl1 htk hc
      generalize hP : (repl T (l.take i)).length = p at HR1 hrl ⊢
      generalize hits T (l.take i) = q at HH1 ⊢
      cases hT : T c with
      | none =>
        have h0 := HTA.out.no c hc256 hT
        have HTc := Aside0.mk hT
        clear hT hP
        go_wp2
        go_roundg (l.length - (i + 1))
        case measure => omega
        case rel => exact ⟨rfl, i + 1, by omega, rfl, by go_num, by rw [HR1.out, HB.out, HTc.out]; congr 1; simp; omega, by rw [HH1.out, HTc.out]; simp⟩
      | some bs =>
        obtain ⟨a, cap, h0, _⟩ := HTA.out.yes c bs hc256 hT
        have HTc := Aside0.mk hT
        have hp1 : p + bs.length ≤ (repl T l).length := by have := HRL1.out; rw [HR1.out, HB.out, hT] at this; exact this
        have e1 : wrap64 (((l.length - i : Nat) : Int) + (p : Int) + ((bs.length : Int) - 1)) = ((l.length - (i + 1) + (p + bs.length) : Nat) : Int) := by have := HLEN.out; have := HSZ.out; unfold wrap64; omega
        clear hT hP
        go_wp2
        go_roundg (l.length - (i + 1))
        case measure => omega
        case rel => exact ⟨rfl, i + 1, by omega, rfl, by go_num, by rw [HR1.out, HB.out, HTc.out]; first | rfl | (rw [e1]; rfl) | (congr 1; simp; omega), by rw [HH1.out, HTc.out]; simp⟩
    · obtain rfl : i = l.length := by omega
      have hlti : ¬ ((l.length : Int) < (s.size : Int)) := by have := HLEN.out; omega
      rw [List.take_length]
      cases hh : hits T l with
      | false =>
        go_wp2
        go_ret
        have e := repl_none T l hh
        exact ⟨by rw [e, ← HS.out]; rfl, Below.refl _ _⟩
      | true =>
        obtain ⟨N, hN⟩ : ∃ N, N = (repl T l).length := ⟨_, rfl⟩
        have e0 : l.length - l.length + (repl T l).length = N := by omega
        rw [e0]
        have HN := Aside0.mk hN
        have hN47 : N ≤ 140737488355328 := by have := HSZ.out; omega
        have hmk : ∀ w, (Instr.makeSlice 83 (.int .i64 (N : Int)) (.int .i64 (N : Int))).run Tryd.prog w = .ok (.slice (some ⟨w.heap.size, 0, none⟩) N N) (w.alloc (.cells (madeCells (Value.int .u8 0).cells N) 5)) := by
          intro w
          obtain ⟨i, hi, hz⟩ := Option.map_eq_some_iff.1 (show ((Tryd.prog).info? 5).map (fun i => (i.zero, i.size, i.bytes)) = some (some (.int .u8 0), 1, 1) by kernel_rfl)
          simp only [Prod.mk.injEq] at hz
          have h := run_make (P := Tryd.prog) w 83 5 i (.int .u8 0) Tryd.underlying83 hi hz.1 .i64 .i64 N N (by omega) (Int.le_refl _) (by rw [hz.2.2]; omega) (by omega)
          rw [hz.2.1] at h
          simpa using h
        have hB0 : Buf w (w.alloc (.cells (madeCells (Value.int .u8 0).cells N) 5)) w.heap.size N [] := Buf.start w (madeCells (Value.int .u8 0).cells N) 5 N 0 (by rw [size_madeCells]; exact Nat.le_refl _)
        have HB0 := Aside0.mk hB0
        clear hB0 hN e0 hN47
        go_wp2_with fail
        clear hlti hh
        go_loopg [13, 14] l.length (fun g5 s13 s14 wr => ∃ i : Nat, i ≤ l.length ∧ g5 = l.length - i ∧ s14 = .int .i64 i ∧ s13 = .int .i64 (((repl T (l.take i)).length : Nat) : Int) ∧ Aside0 (Buf w wr w.heap.size N (repl T (l.take i))))
        case atStart => exact ⟨0, Nat.zero_le _, rfl, rfl, by simp [repl], HB0⟩
        case round =>
          clear HB0
          obtain ⟨i, hi, rfl, rfl, rfl, HB⟩ := hrel
          by_cases hlt : i < l.length
          · obtain ⟨c, hc⟩ : ∃ c, c = (l[i]'hlt).toNat := ⟨_, rfl⟩
            have hx : ∀ h : i < s.size, (s[i]'h).toNat = c := fun h => (HX.out i hlt h).trans hc.symm
            have hc256 : c < 256 := by rw [hc]; exact (l[i]'hlt).toNat_lt
            have hlti : (i : Int) < (s.size : Int) := by have := HLEN.out; omega
            have htk := take_snoc l i hlt
            have hrl1 := repl_take_le T l (i + 1)
            have hr1 : repl T (l.take (i + 1)) = repl T (l.take i) ++ one T (l[i]'hlt) := by rw [htk, repl_append]; simp [repl]
            have HR1 := Aside0.mk hr1
            have HC := Aside0.mk hc
            rw [hr1, List.length_append] at hrl1
            have HO : Aside0 (one T (l[i]'hlt) = (T c).getD [l[i]'hlt]) := ⟨by rw [hc]; rfl⟩
            rw [HO.out] at hrl1
            have hSZ := HSZ.out
            have hN := HN.out
            clear hr1 htk hc
            generalize hP : repl T (l.take i) = acc at HB HR1 hrl1 ⊢
            obtain ⟨p, hp⟩ : ∃ p, p = acc.length := ⟨_, rfl⟩
            have HPL := Aside0.mk hp
            cases hT : T c with
            | none =>
              have h0 := Lib.Below.cellOf HB.out.below (HTA.out.no c hc256 hT) (Nat.le_refl _)
              rw [hT] at hrl1
              simp only [Option.getD_none, List.length_cons, List.length_nil] at hrl1
              have hpN : p < N := by omega
              obtain ⟨v1, h1⟩ := Option.isSome_iff_exists.1 (HB.out.there p hpN)
              have h2 := HB.out.free p hpN
              have HTc := Aside0.mk hT
              have HP := Aside0.mk (Buf.put HB.out (l[i]'hlt) (by omega))
              rw [← hp] at hrl1 ⊢
              clear hT hP hp hN
              have hpi : (p : Int) < (N : Int) := by omega
              go_wp2
              go_roundg (l.length - (i + 1))
              case measure => omega
              case rel => exact ⟨i + 1, by omega, rfl, by go_num, by rw [HR1.out, HO.out, HTc.out, List.length_append, ← HPL.out]; first | rfl | (congr 1; simp; unfold wrap64; omega), ⟨by rw [HR1.out, HO.out, HTc.out, HPL.out, HC.out]; exact HP.out⟩⟩
            | some bs =>
              obtain ⟨a, cap, h0, hcells⟩ := HTA.out.yes c bs hc256 hT
              have hbs : HoldsBytes w (.slice (some a) bs.length cap) bs := ⟨some a, cap, rfl, (fun h => by cases h), fun a' ha' i x hx => by injection ha' with e; subst e; exact hcells i x hx⟩
              have h0' := Lib.Below.cellOf HB.out.below h0 (Nat.le_refl _)
              rw [hT] at hrl1
              simp only [Option.getD_some] at hrl1
              obtain ⟨w2, hr2, B2⟩ := Lib.copy_part (P := Tryd.prog) w wr.drew w.heap.size N acc bs (.slice (some a) bs.length cap) 83 3 5 Tryd.underlying83 (by kernel_rfl) (Nat.le_refl _) (Buf.drew HB.out) hbs (by omega)
              have hsl : ∀ W, (Instr.slice 83 (.slice (some ⟨w.heap.size, 0, none⟩) N N) (some (.int .i64 (p : Int))) none none).run Tryd.prog W = .ok (Lib.tailV w.heap.size N p) W := fun W => Lib.run_slice_tailV W 83 5 Tryd.underlying83 (by intro w; kernel_rfl) _ N p (by omega)
              have HTc := Aside0.mk hT
              have HP := Aside0.mk B2
              rw [← hp] at hr2 hrl1 ⊢
              have hpi : (p : Int) ≤ (N : Int) := by omega
              clear hT hP hp hN B2 h0 hcells hbs
              have hci : (c : Int) < 256 := by omega
              have e1 : wrap64 ((p : Int) + (bs.length : Int)) = ((p + bs.length : Nat) : Int) := by unfold wrap64; omega
              go_wp2_with fail
              go_region_law (refine step_copy_run _ rfl _ _ 83 83 rfl _ _ rfl rfl hr2 ?_)
              all_goals go_wp2
              go_roundg (l.length - (i + 1))
              case measure => omega
              case rel => exact ⟨i + 1, by omega, rfl, by go_num, by rw [HR1.out, HO.out, HTc.out, List.length_append, ← HPL.out]; first | rfl | (rw [e1]; rfl) | (congr 1; simp; unfold wrap64; omega), ⟨by rw [HR1.out, HO.out, HTc.out]; exact HP.out⟩⟩
          · obtain rfl : i = l.length := by omega
            have hlti : ¬ ((l.length : Int) < (s.size : Int)) := by have := HLEN.out; omega
            rw [List.take_length] at HB ⊢
            have hback := run_convert_bytes_back (P := Tryd.prog) wr 83 9 5 ⟨w.heap.size, 0, none⟩ N (repl T l) Tryd.underlying83 Tryd.underlying5 Tryd.underlying9 (fun j hj => by
              have e : (⟨w.heap.size, 0, none⟩ : Addr).add j = ⟨w.heap.size, j, none⟩ := by unfold Addr.add; split <;> simp_all
              rw [e]
              exact HB.out.holds j _ (List.getElem?_eq_getElem hj))
            rw [← HN.out] at hback
            go_wp2
            go_ret
            exact ⟨rfl, HB.out.below⟩
end Go.Proofs.YtgfljlbecafipaaDoor.Rb
