/- (*strings.byteStringReplacer).Replace of a string of fewer than eight bytes for each byte that is replaced: what it returns. (*strings.Replacer).build where each old is one byte, all are different, and not every new is one byte: the table of a byteStringReplacer. The walk of (*strings.Replacer).build. -/
import Derived.Test.YthamffpieafkbaaGreatDoorProg
import Derived.Test.YthamffpieafkbaaGreatDoorGa
import Derived.Lib.SlBuf
import Derived.Laws.IdiomStrings
import Derived.Laws.MakeOwn
import Derived.Laws.Cover3
import Derived.RegionTactic
import Derived.RegionCalls
import Derived.Deep.RegionLaw
import Derived.KernelRfl
import Derived.Lib.SliceRun
namespace Go.Proofs.YthamffpieafkbaaGreatDoor.Rb
open Go.RowKit Go.Lib Go.Proofs.YthamffpieafkbaaGreatDoorW.PrintWords Go.Proofs.YthamffpieafkbaaGreatDoorW.PrintLast Go.Proofs.YthamffpieafkbaaGreatDoorW.PrintMore
set_option linter.unusedVariables false
set_option linter.unusedSimpArgs false

/-- what a byte becomes -/
def one (T : Nat → Option (List UInt8)) (c : UInt8) : List UInt8 := (T c.toNat).getD [c]
def repl (T : Nat → Option (List UInt8)) (l : List UInt8) : List UInt8 := l.flatMap (one T)
def hits (T : Nat → Option (List UInt8)) (l : List UInt8) : Bool := l.any fun c => (T c.toNat).isSome

theorem repl_append (T : Nat → Option (List UInt8)) (a b : List UInt8) : repl T (a ++ b) = repl T a ++ repl T b := by simp [repl]
theorem hits_append (T : Nat → Option (List UInt8)) (a b : List UInt8) : hits T (a ++ b) = (hits T a || hits T b) := by simp [hits]
theorem repl_none (T : Nat → Option (List UInt8)) : ∀ l : List UInt8, hits T l = false → repl T l = l
  | [], _ => rfl
  | c :: r, h => by
    have h' : (T c.toNat).isSome = false ∧ hits T r = false := by simpa [hits] using h
    have ih := repl_none T r h'.2
    have e : T c.toNat = none := by cases hT : T c.toNat with | none => rfl | some _ => rw [hT] at h'; simp at h'
    show one T c ++ repl T r = _
    rw [ih, one, e]
    rfl

structure Tab (w : World) (g : Nat) (T : Nat → Option (List UInt8)) : Prop where
  no : ∀ c, c < 256 → T c = none → w.cell? ⟨g, c, none⟩ = some (.slice none 0 0)
  yes : ∀ c bs, c < 256 → T c = some bs → ∃ a cap, w.cell? ⟨g, c, none⟩ = some (.slice (some a) bs.length cap) ∧ ∀ (i : Nat) x, bs[i]? = some x → w.cell? (a.add i) = some (.int .u8 (x.toNat : Int))

theorem Buf.put {w0 wr : World} {h N : Nat} {acc : List UInt8} (hb : Buf w0 wr h N acc) (c : UInt8) (hfit : acc.length < N) : Buf w0 (wr.setCell ⟨h, acc.length, none⟩ (.int .u8 (c.toNat : Int))) h N (acc ++ [c]) := by
  have hin := World.cell?_setCells_in h [Value.int .u8 (c.toNat : Int)] acc.length wr (fun j hj => by simp at hj; exact hb.there _ (by omega))
  have hout := World.cell?_setCells_out h [Value.int .u8 (c.toNat : Int)] acc.length wr
  show Buf w0 (wr.setCells h acc.length [Value.int .u8 (c.toNat : Int)]) h N (acc ++ [c])
  refine ⟨below_setCells h (Nat.le_refl _) _ _ hb.below, ?_, ?_, ?_, by simp; omega⟩
  · intro j hj
    by_cases h1 : j = acc.length
    · subst h1
      have := hin 0 (by simp)
      rw [Nat.add_zero] at this
      rw [this]; rfl
    · rw [hout ⟨h, j, none⟩ (fun _ _ => by simp only [List.length_cons, List.length_nil]; show j < _ ∨ _ ≤ j; omega)]
      exact hb.there j hj
  · intro j hj
    rw [World.frozen?_setCells]
    exact hb.free j hj
  · intro j x hx
    by_cases h1 : j < acc.length
    · rw [List.getElem?_append_left h1] at hx
      rw [hout ⟨h, j, none⟩ (fun _ _ => Or.inl h1)]
      exact hb.holds j x hx
    · rw [List.getElem?_append_right (by omega)] at hx
      have hd : j - acc.length = 0 := by have := (List.getElem?_eq_some_iff.1 hx).1; simp at this; omega
      rw [hd] at hx
      simp at hx
      subst hx
      have hj : j = acc.length := by omega
      subst hj
      have := hin 0 (by simp)
      rw [Nat.add_zero] at this
      rw [this]; rfl

theorem Buf.drew {w0 wr : World} {h N : Nat} {acc : List UInt8} (hb : Buf w0 wr h N acc) : Buf w0 wr.drew h N acc where
  below := ⟨hb.below.1, hb.below.2, hb.below.3, hb.below.4, hb.below.5⟩
  there := fun j hj => by rw [World.cell?_drew]; exact hb.there j hj
  free := fun j hj => by rw [World.frozen?_drew]; exact hb.free j hj
  holds := fun j x hx => by rw [World.cell?_drew]; exact hb.holds j x hx
  fits := hb.fits

theorem step_copy_run {P : Program} (w : World) {ops : Array Oper} {o : Oper} {a : Act} {K : Act → World → Prop} {Q : Exit → Act → World → Prop} {E : Prop} (hgd : o.guard = none) (d s : Operand) (t t' : TypeId)
    (ho : o.op = .call { callee := .builtin .copy, args := #[d, s], argTypes := #[t, t'] }) (v u : Value) (hd : a.eval d = v) (hs : a.eval s = u) {v' : Value} {w' : World}
    (hr : (Builtin.copy_ #[t, t'] o.type #[v, u]).run P w = .ok v' w') (h : K (a.put o.dst v') w') : if Region.wanted o (yielded ops a.tmps) = true then Oper.wp P o a w K Q else E := by
  rw [if_pos (show Region.wanted o (yielded ops a.tmps) = true by simp [Region.wanted, hgd])]
  exact Lib.wp_copy_run w d s t t' ho v u hd hs hr h

theorem take_snoc (l : List UInt8) (i : Nat) (h : i < l.length) : l.take (i + 1) = l.take i ++ [l[i]] := List.take_succ_eq_append_getElem h

theorem repl_take_le (T : Nat → Option (List UInt8)) (l : List UInt8) (i : Nat) : (repl T (l.take i)).length ≤ (repl T l).length := by
  have e : repl T l = repl T (l.take i) ++ repl T (l.drop i) := by rw [← repl_append, List.take_append_drop]
  rw [e, List.length_append]
  omega

set_option maxRecDepth 1000000 in
set_option maxHeartbeats 8000000 in
theorem replace_short (g : Nat) (T : Nat → Option (List UInt8)) (s : ByteArray) (A : Option Addr) (n cp : Nat) (w : World) (HT : Tab w g T) (hl : w.cell? ⟨g, 256, none⟩ = some (.slice A n cp)) (hn : s.size < 8 * n) (hn0 : n ≤ 256)
    (hsz : s.size + (repl T s.data.toList).length ≤ 140737488355328) :
    Calls Tryz.prog 157 #[.pointer (some ⟨g, 0, none⟩), .string s] w fun e w' => e = .returned (.string ⟨(repl T s.data.toList).toArray⟩) ∧ Below w.heap.size w w' := by
  obtain ⟨l, hlist⟩ : ∃ l, l = s.data.toList := ⟨_, rfl⟩
  have hlen : s.size = l.length := by rw [hlist]; exact size_eq s
  have hs' : s = ⟨l.toArray⟩ := by rw [hlist]
  rw [← hlist] at hsz ⊢
  have HS := Aside0.mk hs'
  have HTA := Aside0.mk HT
  have HSZ := Aside0.mk hsz
  have HX : Aside0 (∀ (i : Nat) (h : i < l.length) (h' : i < s.size), (s[i]'h').toNat = (l[i]'h).toNat) := ⟨fun i h h' => by subst hlist; rfl⟩
  clear HT hsz hlist hs'
  have hle : decide ((n : Int) * 8 ≤ (s.size : Int)) = false := decide_eq_false (by omega)
  have hw : wrap64 ((n : Int) * 8) = (n : Int) * 8 := by unfold wrap64; omega
  clear hn
  have hnn := fun (a : Option Addr) (l c : Nat) (w : World) => run_neq_slice_nil (P := Tryz.prog) w 56 5 a l c Tryz.underlying56
  have HLEN := Aside0.mk hlen
  clear hlen
  go_enter Tryz.func157, Tryz.ntmps157
  go_wp2
  go_loopg [5, 6, 10] l.length (fun g5 s5 s6 s10 wr => w = wr ∧ ∃ i : Nat, i ≤ l.length ∧ g5 = l.length - i ∧ s10 = .int .i64 i ∧ s5 = .int .i64 (((l.length - i + (repl T (l.take i)).length : Nat) : Int)) ∧ s6 = .bool (hits T (l.take i)))
  case atStart => exact ⟨rfl, 0, Nat.zero_le _, rfl, rfl, by simp [repl, HLEN.out], by simp [hits]⟩
  case round =>
    obtain ⟨rfl, i, hi, rfl, rfl, rfl, rfl⟩ := hrel
    by_cases hlt : i < l.length
    · obtain ⟨c, hc⟩ : ∃ c, c = (l[i]'hlt).toNat := ⟨_, rfl⟩
      have hx : ∀ h : i < s.size, (s[i]'h).toNat = c := fun h => (HX.out i hlt h).trans hc.symm
      have hc256 : c < 256 := by rw [hc]; exact (l[i]'hlt).toNat_lt
      have hlti : (i : Int) < (s.size : Int) := by have := HLEN.out; omega
      have htk := take_snoc l i hlt
      have hrl := repl_take_le T l i
      have hrl1 := repl_take_le T l (i + 1)
      have hr1 : (repl T (l.take (i + 1))).length = (repl T (l.take i)).length + (one T (l[i]'hlt)).length := by rw [htk, repl_append, List.length_append]; simp [repl]
      have hh1 : hits T (l.take (i + 1)) = (hits T (l.take i) || (T c).isSome) := by rw [htk, hits_append, hc]; simp [hits]
      have hSZ := HSZ.out
      have hL := HLEN.out
      clear hL
      have HR1 := Aside0.mk hr1
      have HH1 := Aside0.mk hh1
      have HRL1 := Aside0.mk hrl1
      have HB : Aside0 ((one T (l[i]'hlt)) = (T c).getD [l[i]'hlt]) := ⟨by rw [hc]; rfl⟩
      clear hr1 hh1 hrl1 htk hc
      generalize hP : (repl T (l.take i)).length = p at HR1 hrl ⊢
      generalize hits T (l.take i) = q at HH1 ⊢
      cases hT : T c with
      | none =>
        have h0 := HTA.out.no c hc256 hT
        have HTc := Aside0.mk hT
        clear hT hP
        go_wp2
        go_roundg (l.length - (i + 1))
        case measure => omega
        case rel => exact ⟨rfl, i + 1, by omega, rfl, by go_num, by rw [HR1.out, HB.out, HTc.out]; congr 1; simp; omega, by rw [HH1.out, HTc.out]; simp⟩
      | some bs =>
        obtain ⟨a, cap, h0, _⟩ := HTA.out.yes c bs hc256 hT
        have HTc := Aside0.mk hT
        have hp1 : p + bs.length ≤ (repl T l).length := by have := HRL1.out; rw [HR1.out, HB.out, hT] at this; exact this
        have e1 : wrap64 (((l.length - i : Nat) : Int) + (p : Int) + ((bs.length : Int) - 1)) = ((l.length - (i + 1) + (p + bs.length) : Nat) : Int) := by have := HLEN.out; have := HSZ.out; unfold wrap64; omega
        clear hT hP
        go_wp2
        go_roundg (l.length - (i + 1))
        case measure => omega
        case rel => exact ⟨rfl, i + 1, by omega, rfl, by go_num, by rw [HR1.out, HB.out, HTc.out]; first | rfl | (rw [e1]; rfl) | (congr 1; simp; omega), by rw [HH1.out, HTc.out]; simp⟩
    · obtain rfl : i = l.length := by omega
      have hlti : ¬ ((l.length : Int) < (s.size : Int)) := by have := HLEN.out; omega
      rw [List.take_length]
      cases hh : hits T l with
      | false =>
        go_wp2
        go_ret
        have e := repl_none T l hh
        exact ⟨by rw [e, ← HS.out]; rfl, Below.refl _ _⟩
      | true =>
        obtain ⟨N, hN⟩ : ∃ N, N = (repl T l).length := ⟨_, rfl⟩
        have e0 : l.length - l.length + (repl T l).length = N := by omega
        rw [e0]
        have HN := Aside0.mk hN
        have hN47 : N ≤ 140737488355328 := by have := HSZ.out; omega
        have hmk : ∀ w, (Instr.makeSlice 56 (.int .i64 (N : Int)) (.int .i64 (N : Int))).run Tryz.prog w = .ok (.slice (some ⟨w.heap.size, 0, none⟩) N N) (w.alloc (.cells (madeCells (Value.int .u8 0).cells N) 5)) := by
          intro w
          obtain ⟨i, hi, hz⟩ := Option.map_eq_some_iff.1 (show ((Tryz.prog).info? 5).map (fun i => (i.zero, i.size, i.bytes)) = some (some (.int .u8 0), 1, 1) by kernel_rfl)
          simp only [Prod.mk.injEq] at hz
          have h := run_make (P := Tryz.prog) w 56 5 i (.int .u8 0) Tryz.underlying56 hi hz.1 .i64 .i64 N N (by omega) (Int.le_refl _) (by rw [hz.2.2]; omega) (by omega)
          rw [hz.2.1] at h
          simpa using h
        have hB0 : Buf w (w.alloc (.cells (madeCells (Value.int .u8 0).cells N) 5)) w.heap.size N [] := Buf.start w (madeCells (Value.int .u8 0).cells N) 5 N 0 (by rw [size_madeCells]; exact Nat.le_refl _)
        have HB0 := Aside0.mk hB0
        clear hB0 hN e0 hN47
        go_wp2_with fail
        clear hlti hh
        go_loopg [13, 14] l.length (fun g5 s13 s14 wr => ∃ i : Nat, i ≤ l.length ∧ g5 = l.length - i ∧ s14 = .int .i64 i ∧ s13 = .int .i64 (((repl T (l.take i)).length : Nat) : Int) ∧ Aside0 (Buf w wr w.heap.size N (repl T (l.take i))))
        case atStart => exact ⟨0, Nat.zero_le _, rfl, rfl, by simp [repl], HB0⟩
        case round =>
          clear HB0
          obtain ⟨i, hi, rfl, rfl, rfl, HB⟩ := hrel
          by_cases hlt : i < l.length
          · obtain ⟨c, hc⟩ : ∃ c, c = (l[i]'hlt).toNat := ⟨_, rfl⟩
            have hx : ∀ h : i < s.size, (s[i]'h).toNat = c := fun h => (HX.out i hlt h).trans hc.symm
            have hc256 : c < 256 := by rw [hc]; exact (l[i]'hlt).toNat_lt
            have hlti : (i : Int) < (s.size : Int) := by have := HLEN.out; omega
            have htk := take_snoc l i hlt
            have hrl1 := repl_take_le T l (i + 1)
            have hr1 : repl T (l.take (i + 1)) = repl T (l.take i) ++ one T (l[i]'hlt) := by rw [htk, repl_append]; simp [repl]
            have HR1 := Aside0.mk hr1
            have HC := Aside0.mk hc
            rw [hr1, List.length_append] at hrl1
            have HO : Aside0 (one T (l[i]'hlt) = (T c).getD [l[i]'hlt]) := ⟨by rw [hc]; rfl⟩
            rw [HO.out] at hrl1
            have hSZ := HSZ.out
            have hN := HN.out
            clear hr1 htk hc
            generalize hP : repl T (l.take i) = acc at HB HR1 hrl1 ⊢
            obtain ⟨p, hp⟩ : ∃ p, p = acc.length := ⟨_, rfl⟩
            have HPL := Aside0.mk hp
            cases hT : T c with
            | none =>
              have h0 := Lib.Below.cellOf HB.out.below (HTA.out.no c hc256 hT) (Nat.le_refl _)
              rw [hT] at hrl1
              simp only [Option.getD_none, List.length_cons, List.length_nil] at hrl1
              have hpN : p < N := by omega
              obtain ⟨v1, h1⟩ := Option.isSome_iff_exists.1 (HB.out.there p hpN)
              have h2 := HB.out.free p hpN
              have HTc := Aside0.mk hT
              have HP := Aside0.mk (Buf.put HB.out (l[i]'hlt) (by omega))
              rw [← hp] at hrl1 ⊢
              clear hT hP hp hN
              have hpi : (p : Int) < (N : Int) := by omega
              go_wp2
              go_roundg (l.length - (i + 1))
              case measure => omega
              case rel => exact ⟨i + 1, by omega, rfl, by go_num, by rw [HR1.out, HO.out, HTc.out, List.length_append, ← HPL.out]; first | rfl | (congr 1; simp; unfold wrap64; omega), ⟨by rw [HR1.out, HO.out, HTc.out, HPL.out, HC.out]; exact HP.out⟩⟩
            | some bs =>
              obtain ⟨a, cap, h0, hcells⟩ := HTA.out.yes c bs hc256 hT
              have hbs : HoldsBytes w (.slice (some a) bs.length cap) bs := ⟨some a, cap, rfl, (fun h => by cases h), fun a' ha' i x hx => by injection ha' with e; subst e; exact hcells i x hx⟩
              have h0' := Lib.Below.cellOf HB.out.below h0 (Nat.le_refl _)
              rw [hT] at hrl1
              simp only [Option.getD_some] at hrl1
              obtain ⟨w2, hr2, B2⟩ := Lib.copy_part (P := Tryz.prog) w wr.drew w.heap.size N acc bs (.slice (some a) bs.length cap) 56 3 5 Tryz.underlying56 (by kernel_rfl) (Nat.le_refl _) (Buf.drew HB.out) hbs (by omega)
              have hsl : ∀ W, (Instr.slice 56 (.slice (some ⟨w.heap.size, 0, none⟩) N N) (some (.int .i64 (p : Int))) none none).run Tryz.prog W = .ok (Lib.tailV w.heap.size N p) W := fun W => Lib.run_slice_tailV W 56 5 Tryz.underlying56 (by intro w; kernel_rfl) _ N p (by omega)
              have HTc := Aside0.mk hT
              have HP := Aside0.mk B2
              rw [← hp] at hr2 hrl1 ⊢
              have hpi : (p : Int) ≤ (N : Int) := by omega
              clear hT hP hp hN B2 h0 hcells hbs
              have hci : (c : Int) < 256 := by omega
              have e1 : wrap64 ((p : Int) + (bs.length : Int)) = ((p + bs.length : Nat) : Int) := by unfold wrap64; omega
              go_wp2_with fail
              go_region_law (refine step_copy_run _ rfl _ _ 56 56 rfl _ _ rfl rfl hr2 ?_)
              all_goals go_wp2
              go_roundg (l.length - (i + 1))
              case measure => omega
              case rel => exact ⟨i + 1, by omega, rfl, by go_num, by rw [HR1.out, HO.out, HTc.out, List.length_append, ← HPL.out]; first | rfl | (rw [e1]; rfl) | (congr 1; simp; unfold wrap64; omega), ⟨by rw [HR1.out, HO.out, HTc.out]; exact HP.out⟩⟩
          · obtain rfl : i = l.length := by omega
            have hlti : ¬ ((l.length : Int) < (s.size : Int)) := by have := HLEN.out; omega
            rw [List.take_length] at HB ⊢
            have hback := run_convert_bytes_back (P := Tryz.prog) wr 56 9 5 ⟨w.heap.size, 0, none⟩ N (repl T l) Tryz.underlying56 Tryz.underlying5 Tryz.underlying9 (fun j hj => by
              have e : (⟨w.heap.size, 0, none⟩ : Addr).add j = ⟨w.heap.size, j, none⟩ := by unfold Addr.add; split <;> simp_all
              rw [e]
              exact HB.out.holds j _ (List.getElem?_eq_getElem hj))
            rw [← HN.out] at hback
            go_wp2
            go_ret
            exact ⟨rfl, HB.out.below⟩
end Go.Proofs.YthamffpieafkbaaGreatDoor.Rb

namespace Go.Proofs.YthamffpieafkbaaGreatDoor.Rb
open Go.RowKit Go.Lib Go.Proofs.YthamffpieafkbaaGreatDoorW.PrintWords Go.Proofs.YthamffpieafkbaaGreatDoorW.PrintLast Go.Proofs.YthamffpieafkbaaGreatDoorW.PrintMore
set_option linter.unusedVariables false
set_option linter.unusedSimpArgs false

def tabOf : List (UInt8 × ByteArray) → Nat → Option (List UInt8)
  | [], _ => none
  | p :: r, c => if c = p.1.toNat then some p.2.data.toList else tabOf r c

theorem tabOf_none : ∀ (L : List (UInt8 × ByteArray)) (x : UInt8), x ∉ L.map (·.1) → tabOf L x.toNat = none
  | [], _, _ => rfl
  | p :: r, x, h => by
    simp only [List.map_cons, List.mem_cons, not_or] at h
    have hne : ¬ x.toNat = p.1.toNat := fun e => h.1 (UInt8.toNat_inj.1 e)
    rw [tabOf, if_neg hne]
    exact tabOf_none r x h.2

def allOne (L : List (UInt8 × ByteArray)) : Bool := L.all fun p => p.2.size == 1

structure BI (B : Nat) (wr : World) (rb tb k n : Nat) (T : Nat → Option (List UInt8)) (cur : Array Value) : Prop where
  hr : wr.heap[rb]? = some (.cells cur 188 (0, 0))
  hsize : cur.size = 257
  hlast : cur[256]? = some (.slice (some ⟨tb, 0, none⟩) k n)
  no : ∀ c, c < 256 → T c = none → cur[c]? = some (.slice none 0 0)
  yes : ∀ c bs, c < 256 → T c = some bs → ∃ ab cap, cur[c]? = some (.slice (some ⟨ab, 0, none⟩) bs.length cap) ∧ B ≤ ab ∧ ab ≠ rb ∧ ab ≠ tb ∧ ∃ row t fr, wr.heap[ab]? = some (.cells row t fr) ∧ ∀ (j : Nat) x, bs[j]? = some x → row[j]? = some (.int .u8 (x.toNat : Int))
  ht : ∃ tcur tt, wr.heap[tb]? = some (.cells tcur tt (0, 0)) ∧ tcur.size = n
  ne : tb ≠ rb
  geR : B ≤ rb
  geT : B ≤ tb

theorem BI.step {B : Nat} {wr w1 : World} {rb tb k n : Nat} {T : Nat → Option (List UInt8)} {cur : Array Value} (h : BI B wr rb tb k n T cur) (hb : Below wr.heap.size wr w1) : BI B w1 rb tb k n T cur where
  hr := Lb.blk_below h.hr hb
  hsize := h.hsize
  hlast := h.hlast
  no := h.no
  yes := fun c bs hc hT => by
    obtain ⟨ab, cap, h1, h2, h3, h4, row, t, fr, h5, h6⟩ := h.yes c bs hc hT
    exact ⟨ab, cap, h1, h2, h3, h4, row, t, fr, Lb.blk_below h5 hb, h6⟩
  ht := by obtain ⟨tcur, tt, h1, h2⟩ := h.ht; exact ⟨tcur, tt, Lb.blk_below h1 hb, h2⟩
  ne := h.ne
  geR := h.geR
  geT := h.geT

theorem BI.appended {B : Nat} {wr w1 : World} {rb tb k n : Nat} {T : Nat → Option (List UInt8)} {cur tcur : Array Value} {tt : TypeId} (h : BI B wr rb tb k n T cur) (hs : tcur.size = n) (hb : w1.heap[tb]? = some (.cells tcur tt (0, 0))) (hg : wr.grownBy w1 (some tb)) : BI B w1 rb tb k n T cur where
  hr := Lb.blk_grown' h.hr hg (fun e => h.ne e.symm)
  hsize := h.hsize
  hlast := h.hlast
  no := h.no
  yes := fun c bs hc hT => by
    obtain ⟨ab, cap, h1, h2, h3, h4, row, t, fr, h5, h6⟩ := h.yes c bs hc hT
    exact ⟨ab, cap, h1, h2, h3, h4, row, t, fr, Lb.blk_grown' h5 hg h4, h6⟩
  ht := ⟨tcur, tt, hb, hs⟩
  ne := h.ne
  geR := h.geR
  geT := h.geT

theorem BI.counted {B : Nat} {wr w1 : World} {rb tb k k' n : Nat} {T : Nat → Option (List UInt8)} {cur : Array Value} (h : BI B wr rb tb k n T cur) (hb : w1.heap[rb]? = some (.cells (cur.setIfInBounds 256 (.slice (some ⟨tb, 0, none⟩) k' n)) 188 (0, 0))) (hg : wr.grownBy w1 (some rb)) :
    BI B w1 rb tb k' n T (cur.setIfInBounds 256 (.slice (some ⟨tb, 0, none⟩) k' n)) where
  hr := hb
  hsize := by simpa using h.hsize
  hlast := by rw [Array.getElem?_setIfInBounds, if_pos rfl, if_pos (by rw [h.hsize]; omega)]
  no := fun c hc hT => by rw [Array.getElem?_setIfInBounds, if_neg (by omega)]; exact h.no c hc hT
  yes := fun c bs hc hT => by
    obtain ⟨ab, cap, h1, h2, h3, h4, row, t, fr, h5, h6⟩ := h.yes c bs hc hT
    exact ⟨ab, cap, by rw [Array.getElem?_setIfInBounds, if_neg (by omega)]; exact h1, h2, h3, h4, row, t, fr, Lb.blk_grown' h5 hg h3, h6⟩
  ht := by obtain ⟨tcur, tt, h1, h2⟩ := h.ht; exact ⟨tcur, tt, Lb.blk_grown' h1 hg h.ne, h2⟩
  ne := h.ne
  geR := h.geR
  geT := h.geT

theorem BI.stored {B : Nat} {wr w1 : World} {rb tb k n : Nat} {T : Nat → Option (List UInt8)} {cur : Array Value} (h : BI B wr rb tb k n T cur) (x cap ab ℓ : Nat) (hx : x < 256) (bs : List UInt8) (hℓ : ℓ = bs.length) (row : Array Value) (t : TypeId) (fr : Nat × Nat)
    (hab : wr.heap[ab]? = some (.cells row t fr)) (hrow : ∀ (j : Nat) x, bs[j]? = some x → row[j]? = some (.int .u8 (x.toNat : Int))) (hB : B ≤ ab) (hnr : ab ≠ rb) (hnt : ab ≠ tb)
    (hb : w1.heap[rb]? = some (.cells (cur.setIfInBounds x (.slice (some ⟨ab, 0, none⟩) ℓ cap)) 188 (0, 0))) (hg : wr.grownBy w1 (some rb)) :
    BI B w1 rb tb k n (fun c => if c = x then some bs else T c) (cur.setIfInBounds x (.slice (some ⟨ab, 0, none⟩) ℓ cap)) where
  hr := hb
  hsize := by simpa using h.hsize
  hlast := by rw [Array.getElem?_setIfInBounds, if_neg (by omega)]; exact h.hlast
  no := fun c hc hT => by
    by_cases hcx : c = x
    · rw [if_pos hcx] at hT; cases hT
    · rw [if_neg hcx] at hT
      rw [Array.getElem?_setIfInBounds, if_neg (by omega)]; exact h.no c hc hT
  yes := fun c bs' hc hT => by
    by_cases hcx : c = x
    · rw [if_pos hcx] at hT
      injection hT with e
      subst e
      exact ⟨ab, cap, by rw [Array.getElem?_setIfInBounds, if_pos hcx.symm, if_pos (by rw [h.hsize]; omega), hℓ], hB, hnr, hnt, row, t, fr, Lb.blk_grown' hab hg hnr, hrow⟩
    · rw [if_neg hcx] at hT
      obtain ⟨ab', cap', h1, h2, h3, h4, row', t', fr', h5, h6⟩ := h.yes c bs' hc hT
      exact ⟨ab', cap', by rw [Array.getElem?_setIfInBounds, if_neg (by omega)]; exact h1, h2, h3, h4, row', t', fr', Lb.blk_grown' h5 hg h3, h6⟩
  ht := by obtain ⟨tcur, tt, h1, h2⟩ := h.ht; exact ⟨tcur, tt, Lb.blk_grown' h1 hg h.ne, h2⟩
  ne := h.ne
  geR := h.geR
  geT := h.geT

theorem BI.tab {B : Nat} {wr : World} {rb tb k n : Nat} {T : Nat → Option (List UInt8)} {cur : Array Value} (h : BI B wr rb tb k n T cur) : Tab wr rb T where
  no := fun c hc hT => (blk_cell h.hr c).trans (h.no c hc hT)
  yes := fun c bs hc hT => by
    obtain ⟨ab, cap, h1, h2, h3, h4, row, t, fr, h5, h6⟩ := h.yes c bs hc hT
    refine ⟨⟨ab, 0, none⟩, cap, (blk_cell h.hr c).trans h1, fun i x hx => ?_⟩
    have e : (⟨ab, 0, none⟩ : Addr).add i = ⟨ab, i, none⟩ := by unfold Addr.add; split <;> simp_all
    rw [e]
    have := h6 i x hx
    simp [World.cell?, h5, this]

/-- blocks from B on are as they were -/
theorem BI.kept {B : Nat} {w w' : World} {rb tb k n : Nat} {T : Nat → Option (List UInt8)} {cur : Array Value} (h : BI B w rb tb k n T cur) (hk : ∀ j, B ≤ j → j < w.heap.size → w'.heap[j]? = w.heap[j]?) : BI B w' rb tb k n T cur where
  hr := (hk rb h.geR (blk_lt h.hr)).trans h.hr
  hsize := h.hsize
  hlast := h.hlast
  no := h.no
  yes := fun c bs hc hT => by
    obtain ⟨ab, cap, h1, h2, h3, h4, row, t, fr, h5, h6⟩ := h.yes c bs hc hT
    exact ⟨ab, cap, h1, h2, h3, h4, row, t, fr, (hk ab h2 (blk_lt h5)).trans h5, h6⟩
  ht := by obtain ⟨tcur, tt, h1, h2⟩ := h.ht; exact ⟨tcur, tt, (hk tb h.geT (blk_lt h1)).trans h1, h2⟩
  ne := h.ne
  geR := h.geR
  geT := h.geT
end Go.Proofs.YthamffpieafkbaaGreatDoor.Rb

namespace Go.Proofs.YthamffpieafkbaaGreatDoor.Rb
open Go.RowKit Go.Lib Go.Proofs.YthamffpieafkbaaGreatDoorW.PrintWords Go.Proofs.YthamffpieafkbaaGreatDoorW.PrintLast Go.Proofs.YthamffpieafkbaaGreatDoorW.PrintMore
set_option linter.unusedVariables false
set_option linter.unusedSimpArgs false

theorem one_cell {w : World} {g : Nat} {x : UInt8} {t : TypeId} (h : w.heap[g]? = some (.cells #[.int .u8 (x.toNat : Int)] t (0, 0))) (j : Nat) (hj : j < [x].length) : w.cell? ((⟨g, 0, none⟩ : Addr).add j) = some (.int .u8 ([x][j].toNat : Int)) := by
  have e0 : j = 0 := by simpa using hj
  subst e0
  have e : (⟨g, 0, none⟩ : Addr).add 0 = ⟨g, 0, none⟩ := by unfold Addr.add; split <;> simp_all
  rw [e]
  exact (blk_cell h 0).trans rfl

theorem one_back (w : World) (g : Nat) (x : UInt8) (old : ByteArray) (ho : old = ⟨#[x]⟩) (h : w.heap[g]? = some (.cells #[.int .u8 (x.toNat : Int)] 5 (0, 0))) :
    (convert 56 9 (.slice (some ⟨g, 0, none⟩) 1 1)).run Tryz.prog w = .ok (.string old) w := by
  subst ho
  exact run_convert_bytes_back (P := Tryz.prog) w 56 9 5 ⟨g, 0, none⟩ 1 [x] Tryz.underlying56 Tryz.underlying5 Tryz.underlying9 (fun j hj => one_cell h j hj)

def isNil : Option Value → Bool
  | some (.slice none 0 0) => true
  | _ => false
theorem isNil_eq : ∀ {v : Option Value}, isNil v = true → v = some (.slice none 0 0) := by
  intro v h
  unfold isNil at h
  split at h
  · rfl
  · cases h
theorem zone (tb i : Nat) : ∀ q ∈ ((Tryz.zeroCells188).setIfInBounds 256 (.slice (some ⟨tb, 0, none⟩) 0 i)).toList, q.oneCell' = true := by
  intro q hq
  rw [Array.toList_setIfInBounds] at hq
  rcases List.mem_or_eq_of_mem_set hq with h | h
  · exact (List.all_eq_true.1 (by kernel_rfl)) q h
  · subst h; rfl

theorem BI.start {w w1 w2 w3 : World} {tb rb n : Nat} (h1 : w1.heap[tb]? = some (.cells (madeCells #[Value.string ⟨#[]⟩] n) 9 (0, 0))) (hb1 : Below w.heap.size w w1) (ht : tb = w.heap.size)
    (hb2 : Below w1.heap.size w1 w2) (hr : rb = w1.heap.size) (h3 : w3.heap[rb]? = some (.cells ((Tryz.zeroCells188).setIfInBounds 256 (.slice (some ⟨tb, 0, none⟩) 0 n)) 188 (0, 0))) (hg : w2.grownBy w3 (some rb)) :
    BI w.heap.size w3 rb tb 0 n (tabOf []) ((Tryz.zeroCells188).setIfInBounds 256 (.slice (some ⟨tb, 0, none⟩) 0 n)) where
  hr := h3
  hsize := by rw [Array.size_setIfInBounds]; kernel_rfl
  hlast := by rw [Array.getElem?_setIfInBounds, if_pos rfl, if_pos (by rw [show (Tryz.zeroCells188).size = 257 by kernel_rfl]; omega)]
  no := fun c hc _ => by
    rw [Array.getElem?_setIfInBounds, if_neg (by omega)]
    exact isNil_eq ((List.all_eq_true.1 (show ((List.range 256).all fun c => isNil ((Tryz.zeroCells188)[c]?)) = true by kernel_rfl)) c (List.mem_range.2 hc))
  yes := fun c bs hc hT => by cases hT
  ht := ⟨_, _, Lb.blk_grown' (Lb.blk_below h1 hb2) hg (by have := blk_lt h1; omega), size_madeCells _ _⟩
  ne := by have := blk_lt h1; omega
  geR := by have := hb1.size; omega
  geT := by omega

set_option maxRecDepth 1000000 in
set_option maxHeartbeats 8000000 in
theorem build_calls (R ob cc n : Nat) (L : List (UInt8 × ByteArray)) (w : World) (hR : w.cell? ⟨R, 4, none⟩ = some (.slice (some ⟨ob, 0, none⟩) (2 * n) cc)) (hn : L.length = n) (h2 : 2 ≤ n) (h100 : n ≤ 100)
    (hc : ∀ i (h : i < L.length), w.cell? ⟨ob, 2 * i, none⟩ = some (.string ⟨#[(L[i]'h).1]⟩) ∧ w.cell? ⟨ob, 2 * i + 1, none⟩ = some (.string (L[i]'h).2))
    (hone : allOne L = false) (hnd : (L.map (·.1)).Nodup) (hsz : ∀ p ∈ L, p.2.size ≤ 1000) :
    Calls Tryz.prog 86 #[.pointer (some ⟨R, 0, none⟩)] w fun e w' => ∃ rb tb cur, e = .returned (.iface 189 (.pointer (some ⟨rb, 0, none⟩))) ∧ BI w.heap.size w' rb tb n n (tabOf L) cur ∧ Below w.heap.size w w' := by
  have HC := Aside0.mk hc
  have HSZ := Aside0.mk hsz
  have HND := Aside0.mk hnd
  have HONE := Aside0.mk hone
  clear hc hnd hsz hone
  have f2 : (((2 * n : Nat) : Int) == 2) = false := beq_eq_false_iff_ne.2 (by omega)
  obtain ⟨m, hm⟩ : ∃ m, m = 2 * n := ⟨_, rfl⟩
  rw [← hm] at hR f2
  have HM := Aside0.mk hm
  clear hm
  go_enter Tryz.func86, Tryz.ntmps86
  go_wp2
  go_loopg [4, 5] n (fun g5 s4 s5 wr => w = wr ∧ ∃ i x : Nat, i ≤ n ∧ x = 2 * i ∧ g5 = n - i ∧ s5 = .int .i64 x ∧ s4 = .bool (allOne (L.take i)))
  case atStart => exact ⟨rfl, 0, 0, Nat.zero_le _, rfl, rfl, rfl, by simp [allOne]⟩
  case round =>
    obtain ⟨rfl, i, x, hi, hx, rfl, rfl, rfl⟩ := hrel
    by_cases hlt : i < n
    · obtain ⟨h0, h1⟩ := HC.out i (by omega)
      rw [← hx] at h0
      have HX := Aside0.mk hx
      have hxm : (x : Int) < (m : Int) := by have := HM.out; omega
      obtain ⟨y, hy⟩ : ∃ y, y = x + 1 := ⟨_, rfl⟩
      rw [show 2 * i + 1 = y by omega] at h1
      have hxy : (x : Int) + 1 = (y : Int) := by omega
      have hym : (y : Int) < (m : Int) := by have := HM.out; omega
      have hwy : wrap64 (y : Int) = (y : Int) := by have := HM.out; unfold wrap64; omega
      obtain ⟨b, hb⟩ : ∃ b, b = (L[i]'(by omega)).2 := ⟨_, rfl⟩
      rw [← hb] at h1
      have HT : Aside0 (allOne (L.take (i + 1)) = (allOne (L.take i) && (b.size == 1))) := ⟨by
        rw [List.take_succ_eq_append_getElem (by omega : i < L.length), hb]; unfold allOne; rw [List.all_append]; simp⟩
      clear hb hx hy
      generalize allOne (L.take i) = q at HT ⊢
      by_cases hb1 : b.size = 1
      · have e1 : (b.size != 1) = false := by simp [hb1]
        have e1' : ((b.size : Int) != 1) = false := by simp [hb1]
        have HB1 := Aside0.mk hb1
        clear hb1 e1
        go_wp2
        go_roundg (n - (i + 1))
        case measure => omega
        case rel => exact ⟨rfl, i + 1, x + 2, by omega, by have := HX.out; omega, rfl, by first | rfl | (congr 1; simp; have := HM.out; have := HX.out; unfold wrap64; omega), by rw [HT.out, HB1.out]; simp⟩
      · have e1' : ((b.size : Int) != 1) = true := by simp; omega
        have HB1 := Aside0.mk hb1
        clear hb1
        go_wp2
        go_roundg (n - (i + 1))
        case measure => omega
        case rel => exact ⟨rfl, i + 1, x + 2, by omega, by have := HX.out; omega, rfl, by first | rfl | (congr 1; simp; have := HM.out; have := HX.out; unfold wrap64; omega), by rw [HT.out]; simp [HB1.out]⟩
    · obtain rfl : i = n := by omega
      have hall : L.take i = L := by rw [← hn, List.take_length]
      have hxm : ¬ ((x : Int) < (m : Int)) := by have := HM.out; omega
      rw [hall, HONE.out]
      have hq : (m : Int) / 2 = (i : Int) := by have := HM.out; omega
      have hq' : Int.tdiv (m : Int) 2 = (i : Int) := by have := HM.out; rw [Int.tdiv_eq_ediv_of_nonneg (by omega)]; exact hq
      clear hall hx
      obtain ⟨ii, hi, hz⟩ := Option.map_eq_some_iff.1 (show ((Tryz.prog).info? 9).map (fun i => (i.zero, i.size, i.bytes)) = some (some (.string ⟨#[]⟩), 1, 16) by kernel_rfl)
      simp only [Prod.mk.injEq] at hz
      have hmk := run_make (P := Tryz.prog) w 27 9 ii (.string ⟨#[]⟩) Tryz.underlying27 hi hz.1 .i64 .i64 0 i (by omega) (by omega) (by rw [hz.2.2]; omega) (by omega)
      rw [hz.2.1] at hmk
      simp only [Int.toNat_zero, Int.toNat_natCast, Nat.mul_one] at hmk
      clear hz hi
      go_wp2_with (first
        | ((with_reducible refine gate_dst (N := 94) rfl ?_); refine Lb.alloc_event ?hg (v := fun g => .slice (some ⟨g, 0, none⟩) 0 i) (cs := madeCells #[Value.string ⟨#[]⟩] i) (t := 9) (fr := (0, 0)) ?hr ?_; (case hg => rfl); (case hr => first | (go_simp; done) | (go_simp; rfl)); intro tb htb w1 hbox1 hb1; have HB1 := Aside0.mk hb1; have HX1 := Aside0.mk hbox1; have HTB := Aside0.mk htb; clear hbox1 hb1 htb)
        | ((with_reducible refine gate_dst (N := 11) rfl ?_); refine box_event ?hg (N := 11) ?hd (cs := Tryz.zeroCells188) (t := 188) ?hr ?_; (case hd => rfl); (case hg => rfl); (case hr => first | (go_simp; done) | (go_simp; rfl)); intro rb hrb w2 hbox2 hb2; have HB2 := Aside0.mk hb2; have HX2 := Aside0.mk hbox2; have HRB := Aside0.mk hrb; clear hbox2 hb2 hrb)
        | ((with_reducible refine gate_store (t := 188) (p := 11) rfl ?_); refine Lb.store_whole rfl rfl 188 (.tmp 11) (.tmp 95) rfl (new := (Tryz.zeroCells188).setIfInBounds 256 (.slice (some ⟨tb, 0, none⟩) 0 i)) rfl rfl HX2.out (by simp) (by kernel_rfl) ?h1 ?_; (case h1 => exact zone _ _); intro w3 hb3 hg3; have HG3 := Aside0.mk hg3; have HX3 := Aside0.mk hb3; clear hb3 hg3))
      have HB := Aside0.mk (BI.start HX1.out HB1.out HTB.out HB2.out HRB.out HX3.out HG3.out)
      have HBL := Aside0.mk (Lb.grown_below (below_step HB1.out HB2.out) HG3.out (below_step HB1.out HB2.out).size HB.out.geR)
      have hen := fun (a : Option Addr) (l c : Nat) (w : World) => Lib.run_eql_slice_nil (P := Tryz.prog) w 56 5 a l c 0 0 Tryz.underlying56
      have HOB := Aside0.mk (World.block_lt_of_cell? w _ (HC.out 0 (by omega)).1)
      have em : ((m : Nat) : Int) - 2 = 2 * (i : Int) - 2 := by have := HM.out; omega
      rw [em]
      clear em hq hq' hmk hxm
      go_loopg [12] i (fun g5 s12 wr => ∃ (j : Nat) (cur : Array Value), j ≤ i ∧ g5 = j ∧ s12 = .int .i64 (2 * (j : Int) - 2) ∧ Aside0 (BI w.heap.size wr rb tb (i - j) i (tabOf (L.drop j)) cur) ∧ Aside0 (Below w.heap.size w wr))
      case atStart => exact ⟨i, _, Nat.le_refl _, rfl, rfl, by rw [Nat.sub_self, ← hn, List.drop_length]; rw [hn]; exact HB, HBL⟩
      case round =>
        clear HB HBL
        obtain ⟨_, cur, hj, rfl, rfl, HB, HBL⟩ := hrel
        cases gk with
        | zero =>
          go_wp2
          go_ret
          have hBI := HB.out
          rw [List.drop_zero, Nat.sub_zero] at hBI
          first | exact ⟨rb, tb, cur, rfl, hBI, HBL.out⟩ | exact ⟨rb, rfl, ⟨tb, cur, hBI⟩, HBL.out⟩ | exact ⟨rb, rfl, tb, ⟨cur, hBI⟩, HBL.out⟩ | exact ⟨rb, rfl, tb, cur, hBI, HBL.out⟩
        | succ j =>
          obtain ⟨p, hp⟩ : ∃ p, p = L[j]'(by omega) := ⟨_, rfl⟩
          have hdrop : L.drop j = p :: L.drop (j + 1) := by rw [List.drop_eq_getElem_cons (by omega : j < L.length), hp]
          obtain ⟨h0, h1⟩ := HC.out j (by omega)
          rw [← hp] at h0 h1
          have hTn : tabOf (L.drop (j + 1)) p.1.toNat = none := tabOf_none _ _ (by
            have h := HND.out
            have e := congrArg (List.map (·.1)) (List.take_append_drop j L)
            rw [hdrop, List.map_append, List.map_cons] at e
            rw [← e] at h
            have h2 := (List.nodup_append.1 h).2.1
            exact (List.nodup_cons.1 h2).1)
          have HTS : Aside0 (tabOf (L.drop j) = fun c => if c = p.1.toNat then some p.2.data.toList else tabOf (L.drop (j + 1)) c) := ⟨by rw [hdrop]; rfl⟩
          obtain ⟨x, hx⟩ : ∃ x, x = 2 * j := ⟨_, rfl⟩
          obtain ⟨y, hy⟩ : ∃ y, y = x + 1 := ⟨_, rfl⟩
          rw [show 2 * j + 1 = y by omega] at h1
          rw [← hx] at h0
          have hob := HOB.out
          replace h0 := Lib.Below.cellOf HBL.out h0 (Nat.le_refl _)
          replace h1 := Lib.Below.cellOf HBL.out h1 (Nat.le_refl _)
          have ex : 2 * ((j + 1 : Nat) : Int) - 2 = (x : Int) := by omega
          rw [ex]
          have HX2 := Aside0.mk hx
          have hxm : (x : Int) < (m : Int) := by have := HM.out; omega
          have hxy : (x : Int) + 1 = (y : Int) := by omega
          have hym : (y : Int) < (m : Int) := by have := HM.out; omega
          have hwy : wrap64 (y : Int) = (y : Int) := by have := HM.out; unfold wrap64; omega
          obtain ⟨c, hc⟩ : ∃ c, c = p.1.toNat := ⟨_, rfl⟩
          have hc256 : c < 256 := by rw [hc]; exact p.1.toNat_lt
          have hci : (c : Int) < 256 := by omega
          obtain ⟨old, hold⟩ : ∃ old : ByteArray, old = ⟨#[p.1]⟩ := ⟨_, rfl⟩
          rw [← hold] at h0
          have hos : (0 : Int) < (old.size : Int) := by rw [hold]; show (0 : Int) < ((1 : Nat) : Int); omega
          have hoc : ∀ h : 0 < old.size, (old[0]'h).toNat = c := fun h => by subst hold; exact hc.symm
          have HOLD := Aside0.mk hold
          have HCC := Aside0.mk hc
          obtain ⟨b, hb⟩ : ∃ b, b = p.2 := ⟨_, rfl⟩
          rw [← hb] at h1
          have HBB := Aside0.mk hb
          rw [← hc] at hTn
          have h2 := (blk_cell HB.out.hr c).trans (HB.out.no c hc256 hTn)
          have h3 := (blk_cell HB.out.hr 256).trans HB.out.hlast
          obtain ⟨tcur, tt, ht1, ht2⟩ := HB.out.ht
          have HT1 := Aside0.mk ht1
          have HT2 := Aside0.mk ht2
          have hbk : b.size ≤ 1000 := by rw [hb]; exact HSZ.out p (by rw [hp]; exact List.getElem_mem _)
          clear ht1 ht2 hp hdrop hx hy ex hold hc hb hTn hob
          go_wp2_with (first
            | ((with_reducible refine gate_dst (N := 121) rfl ?_); refine Lb.alloc_event ?hg (v := fun g => .slice (some ⟨g, 0, none⟩) 1 1) (cs := #[.int .u8 (c : Int)]) (t := 5) (fr := (0, 0)) ?hr ?_; (case hg => rfl); (case hr => first | (go_simp; done) | (go_simp; rfl)); intro g1 hg1 w1 hbox1 hb1; have HW1 := Aside0.mk hb1; have hcv : (convert 56 9 (.slice (some ⟨g1, 0, none⟩) 1 1)).run Tryz.prog w1 = .ok (.string old) w1 := one_back w1 g1 p.1 old HOLD.out (by rw [← HCC.out]; exact hbox1); clear hbox1 hb1 hg1; clear h1 h2 h3 h0; have HB1 := Aside0.mk (HB.out.step HW1.out); have h3 := (blk_cell HB1.out.hr 256).trans HB1.out.hlast)
            | ((with_reducible refine gate_dst (N := 123) rfl ?_); refine Lb.alloc_event ?hg (v := fun g => .slice (some ⟨g, 0, none⟩) 1 1) (cs := #[.string old]) (t := 9) (fr := (0, 0)) ?hr ?_; (case hg => rfl); (case hr => first | (go_simp; done) | (go_simp; rfl)); intro g2 hg2 w2 hbox2 hb2; have HW2 := Aside0.mk hb2; have HX2' := Aside0.mk hbox2; clear hbox2 hb2 hg2; clear h3 hcv; have HB2 := Aside0.mk (HB1.out.step HW2.out); have h3 := (blk_cell HB2.out.hr 256).trans HB2.out.hlast)
            | ((with_reducible refine gate_dst (N := 124) rfl ?_); refine Lb.append_one_room rfl (.tmp 119) (.tmp 123) 27 rfl 9 Tryz.underlying27 (by kernel_rfl) rfl rfl ((blk_cell HX2'.out 0).trans rfl) rfl (by omega) (Lb.blk_below (Lb.blk_below HT1.out HW1.out) HW2.out) (by rw [HT2.out]; omega) ?_; intro w3 hb3 hg3; have HG3 := Aside0.mk hg3; have HB3 := Aside0.mk (HB2.out.appended (by rw [Array.size_setIfInBounds]; exact HT2.out) hb3 hg3); clear h3 hb3 hg3)
            | ((with_reducible refine gate_store (t := 27) (p := 125) rfl ?_); refine Lb.store_one rfl rfl 27 (.tmp 125) (.tmp 124) rfl rfl rfl rfl rfl HB3.out.hr (by kernel_rfl) (by rw [HB3.out.hsize]; omega) ?_; intro w4 hb4 hg4; have HG4 := Aside0.mk hg4; have HB4 := Aside0.mk (HB3.out.counted hb4 hg4); clear hb4 hg4)
            | ((with_reducible refine gate_dst (N := 128) rfl ?_); refine Lb.bytes_event rfl 9 56 5 b (.tmp 127) rfl rfl Tryz.underlying9 Tryz.underlying56 Tryz.underlying5 ?_; intro g5 cap row fr w5 hg5 hx5 hrow hb5; have HW5 := Aside0.mk hb5; have HX5 := Aside0.mk hx5; have HROW := Aside0.mk hrow; have HG5 := Aside0.mk hg5; have HB5 := Aside0.mk (HB4.out.step HW5.out); clear hg5 hx5 hrow hb5)
            | ((with_reducible refine gate_store (t := 56) (p := 130) rfl ?_); refine Lb.store_one rfl rfl 56 (.tmp 130) (.tmp 128) rfl rfl rfl rfl rfl HB5.out.hr (by kernel_rfl) (by rw [HB5.out.hsize]; omega) ?_; intro w6 hb6 hg6; have HG6 := Aside0.mk hg6; have HX6 := Aside0.mk hb6; clear hb6 hg6))
          have hX6 := HX6.out
          have hgr : g5 ≠ rb := by have := blk_lt HB4.out.hr; have := HG5.out; omega
          have hgt : g5 ≠ tb := by obtain ⟨_, _, ht, _⟩ := HB4.out.ht; have := blk_lt ht; have := HG5.out; omega
          have hge : w.heap.size ≤ g5 := by have := blk_lt HB4.out.hr; have := HG5.out; have := HB4.out.geR; omega
          have hBI := HB5.out.stored c cap g5 b.size hc256 b.data.toList (size_eq b) row _ fr HX5.out HROW.out hge hgr hgt hX6 HG6.out
          rw [HBB.out, HCC.out, ← HTS.out, show i - (j + 1) + 1 = i - j by omega] at hBI
          have b1 := below_step (below_step HBL.out HW1.out) HW2.out
          have b2 := Lb.grown_below b1 HG3.out b1.size HB2.out.geT
          have b3 := Lb.grown_below b2 HG4.out b2.size HB3.out.geR
          have b4 := below_step b3 HW5.out
          have b5 := Lb.grown_below b4 HG6.out b4.size HB5.out.geR
          have HBI := Aside0.mk hBI
          have HBL6 := Aside0.mk b5
          clear hX6 hBI b1 b2 b3 b4 b5
          go_roundg j
          case measure => omega
          case rel => exact ⟨j, _, by omega, rfl, by first | rfl | (congr 1; have := HX2.out; unfold wrap64; omega), HBI, HBL6⟩
end Go.Proofs.YthamffpieafkbaaGreatDoor.Rb
