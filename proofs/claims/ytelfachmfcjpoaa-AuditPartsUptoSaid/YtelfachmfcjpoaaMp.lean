/- A map from whole numbers to blocks of one's own; its keys, sorted. -/
import Derived.Test.YtelfachmfcjpoaaIter
import Derived.Test.YtelfachmfcjpoaaLib
import Derived.Maps.OwnOps
import Derived.Maps.OwnSet
import Derived.Maps.Ext
import Derived.Maps.Views
namespace Go.Proofs.Ytelfachmfcjpoaa.Mp
open Go.RowKit Go.Maps Go.Sort Go.Shelf Go.Proofs.YtelfachmfcjpoaaW.PrintWords Go.Proofs.YtelfachmfcjpoaaW.PrintLast Go.Proofs.YtelfachmfcjpoaaW.PrintMore

/-- a pointer to the head of a block reads as the block's number -/
def ptrR : Value → Option (DataW Unit × List MemPlace)
  | .pointer none => some (.nil, [])
  | .pointer (some ⟨g, 0, none⟩) => some (.lit (.int .i64 g), [])
  | _ => none
def ptrD : Option Nat → DataW Unit
  | none => .nil
  | some g => .lit (.int .i64 g)
def ptrV : Option Nat → Value
  | none => .pointer none
  | some g => .pointer (some ⟨g, 0, none⟩)
theorem ptrR_inv {v : Value} {o : Option Nat} {ps : List MemPlace} (h : ptrR v = some (ptrD o, ps)) : v = ptrV o := by
  unfold ptrR at h
  split at h
  · cases o with
    | none => rfl
    | some g => simp [ptrD] at h
  · cases o with
    | none => simp [ptrD] at h
    | some g =>
      simp only [ptrD, Option.some.injEq, Prod.mk.injEq, DataW.lit.injEq, Lit.int.injEq] at h
      have : g = _ := (Int.ofNat_inj.1 h.1.2).symm
      subst this
      rfl
  · cases h

theorem ptr_lookup {P : Program} (w : World) {ops : Array Oper} {rest : List Oper} {o : Oper} {a : Act} {Q : Exit → Act → World → Prop}
    (hg : o.guard = none) (m x : Operand) (t : TypeId) (hop : o.op = Op.lookup t m x false)
    (k e : TypeId) (K : Keyed P k) (ht : P.underlying t = some (.map k e)) (hz : (zeroValue e).run P w = .ok (.pointer none) w) (b n : Nat) (D : DataW Unit)
    (hm : a.eval m = .map (some b)) (hown : w.ownsMap P k ptrR b n D) (key : Value) (kl : Lit) (hx : a.eval x = key) (hkey : keyOf P k key = some kl) (q : Option Nat) (hq : D.atKey kl .nil = ptrD q)
    (hK : wpList P ops Q rest (a.put o.dst (ptrV q)) w) : wpList P ops Q (o :: rest) a w := by
  refine wpList_plain hg fun K' hK' => ?_
  obtain ⟨v, ps, hrun, hR⟩ := hown.lookup K ht hz (zd := .nil) (zp := []) rfl hkey
  rw [hq] at hR
  obtain rfl := ptrR_inv hR
  unfold Oper.wp
  simp [execOp, hop, hm, hx, hrun, Result.andThen]
  exact hK' _ _ hK

theorem ptr_lookup_none {P : Program} (w : World) {ops : Array Oper} {rest : List Oper} {o : Oper} {a : Act} {Q : Exit → Act → World → Prop}
    (hg : o.guard = none) (m x : Operand) (t : TypeId) (hop : o.op = Op.lookup t m x false)
    (k e : TypeId) (K : Keyed P k) (ht : P.underlying t = some (.map k e)) (hz : (zeroValue e).run P w = .ok (.pointer none) w) (b n : Nat) (D : DataW Unit)
    (hm : a.eval m = .map (some b)) (hown : w.ownsMap P k ptrR b n D) (key : Value) (kl : Lit) (hx : a.eval x = key) (hkey : keyOf P k key = some kl) (hq : D.atKey kl .nil = .nil)
    (hK : wpList P ops Q rest (a.put o.dst (.pointer none)) w) : wpList P ops Q (o :: rest) a w := ptr_lookup w hg m x t hop k e K ht hz b n D hm hown key kl hx hkey none hq hK
theorem ptr_lookup_some {P : Program} (w : World) {ops : Array Oper} {rest : List Oper} {o : Oper} {a : Act} {Q : Exit → Act → World → Prop}
    (hg : o.guard = none) (m x : Operand) (t : TypeId) (hop : o.op = Op.lookup t m x false)
    (k e : TypeId) (K : Keyed P k) (ht : P.underlying t = some (.map k e)) (hz : (zeroValue e).run P w = .ok (.pointer none) w) (b n : Nat) (D : DataW Unit)
    (hm : a.eval m = .map (some b)) (hown : w.ownsMap P k ptrR b n D) (key : Value) (kl : Lit) (hx : a.eval x = key) (hkey : keyOf P k key = some kl) (g : Nat) (hq : D.atKey kl .nil = .lit (.int .i64 g))
    (hK : wpList P ops Q rest (a.put o.dst (.pointer (some ⟨g, 0, none⟩))) w) : wpList P ops Q (o :: rest) a w := ptr_lookup w hg m x t hop k e K ht hz b n D hm hown key kl hx hkey (some g) hq hK

theorem int_law : Keyed Try.prog 3 := int_keyed Try.underlying3
theorem int_key {p : Int} (h : -9223372036854775808 ≤ p ∧ p ≤ 9223372036854775807) : keyOf Try.prog 3 (.int .i64 p) = some (.int .i64 p) :=
  keyOf_int_mk Try.underlying3 (by simpa [Lit.wf, IntKind.min, IntKind.max, IntKind.signed, IntKind.bits] using h)

theorem keys_calls (mb : Option Nat) (W : World) : Calls Try.prog 21 #[.map mb] W fun e w' =>
    e = .returned (.func (.func 29) #[] #[.pointer (some ⟨W.heap.size, 0, none⟩)]) ∧ w' = W.alloc (.cells #[.map mb] 54) :=
  callsIn_wide.1 (AnyZI.keys_in (ρ := Try.keysA_ren) Try.keysA Fence.wide 5 trivial rfl mb W)

theorem sortsA (m : Nat) : AnyZI.SortsIn Try.prog Try.sortedA_ren Fence.wide m :=
  ⟨fun blk off cap ss W hH hblk hsz => callsIn_wide.2 (AnyM.slices_Sort_int Try.sortA blk off cap ss W hH hblk hsz),
   fun p cap W => callsIn_wide.2 (AnyM.slices_Sort_int_none Try.sortA p cap W)⟩

theorem sorted_calls (b nn : Nat) (D0 : DataW Unit) (R : Value → Option (DataW Unit × List MemPlace)) (w : World) (hown : w.ownsMap Try.prog 3 R b nn D0) (hmax : Maps.size D0 ≤ 4194304) :
    Calls Try.prog 20 #[.func (.func 29) #[] #[.pointer (some ⟨w.heap.size, 0, none⟩)]] (w.alloc (.cells #[.map (some b)] 54)) fun e w' =>
      ∃ (v : Value) (ss : List Int), e = .returned v ∧ ss.Perm (intKeys D0) ∧ w'.ownsRow (w.heap.size + 1) 3 1 v ss.length ((ss.mergeSort (fun x y => decide (x ≤ y))).map encZ) ∧ Below (w.heap.size + 1) (w.alloc (.cells #[.map (some b)] 54)) w' := by
  have hbl := hown.lt
  have hseq : SeqGives Fence.wide 2 Try.prog 29 #[.pointer (some ⟨w.heap.size, 0, none⟩)] encZ (fun ss => ss.Perm (intKeys D0)) (Maps.size D0) (w.alloc (.cells #[.map (some b)] 54)) :=
    AnyZI.keys_gives (ρ := Try.keysA_ren) { Try.keysA with } Fence.wide _ trivial rfl (by omega) w.heap.size b nn D0 _ (by simp) (by simp) (by
      obtain ⟨es, clock, hb, Ft, hs, hD⟩ := hown
      exact ⟨es, clock, (Below.heap_alloc _ _ b hbl).trans hb, Ft, hs, hD⟩)
  have cS := AnyZI.sorted_in (ρ := Try.sortedA_ren) Try.sortedA Fence.wide 5 trivial trivial trivial trivial rfl (by omega) (sortsA _) (enters_of Try.func28 (by kernel_rfl) rfl) 29 #[.pointer (some ⟨w.heap.size, 0, none⟩)] trivial
    (enters_of Try.func29 (by kernel_rfl) rfl) _ _ (by unfold maxLen; omega) (by omega) _ hseq
  change CallsIn _ _ Try.prog 20 _ _ _ at cS
  refine (callsIn_wide.1 cS).mono ?_
  rintro e w' ⟨v, ss, he, hS, hrow, hnil, hb⟩
  have e1 : (w.alloc (.cells #[.map (some b)] 54)).heap.size = w.heap.size + 1 := by simp
  rw [e1] at hrow hb
  exact ⟨v, ss, he, hS, hrow, hb⟩

/-- two lists that rise and hold the same are one -/
theorem rising_ext : ∀ {a b : List Int}, a.Pairwise (· < ·) → b.Pairwise (· < ·) → (∀ x, x ∈ a ↔ x ∈ b) → a = b
  | [], [], _, _, _ => rfl
  | [], y :: b, _, _, h => by have := (h y).2 (by simp); cases this
  | x :: a, [], _, _, h => by have := (h x).1 (by simp); cases this
  | x :: a, y :: b, ha, hb, h => by
    rw [List.pairwise_cons] at ha hb
    have hxy : x = y := by
      have h1 := (h x).1 (by simp)
      have h2 := (h y).2 (by simp)
      rcases List.mem_cons.1 h1 with e | e
      · exact e
      · rcases List.mem_cons.1 h2 with e2 | e2
        · exact e2.symm
        · have := hb.1 x e; have := ha.1 y e2; omega
    subst hxy
    rw [rising_ext ha.2 hb.2 fun z => ?_]
    have hz := h z
    simp only [List.mem_cons] at hz
    constructor
    · intro hm
      rcases hz.1 (.inr hm) with e | e
      · have := ha.1 z hm; omega
      · exact e
    · intro hm
      rcases hz.2 (.inr hm) with e | e
      · have := hb.1 z hm; omega
      · exact e

theorem sorted_rising {ss : List Int} (hnd : ss.Nodup) : (ss.mergeSort (fun x y => decide (x ≤ y))).Pairwise (· < ·) := by
  have hs := List.pairwise_mergeSort (le := fun x y : Int => decide (x ≤ y)) (by intro a b c h1 h2; simp at *; omega) (by intro a b; simp; omega) ss
  have hn : (ss.mergeSort (fun x y => decide (x ≤ y))).Nodup := (List.mergeSort_perm ss _).nodup_iff.2 hnd
  have h2 := List.Pairwise.and hs hn
  refine h2.imp ?_
  intro a b ⟨h1, h3⟩
  simp at h1
  omega
end Go.Proofs.Ytelfachmfcjpoaa.Mp
