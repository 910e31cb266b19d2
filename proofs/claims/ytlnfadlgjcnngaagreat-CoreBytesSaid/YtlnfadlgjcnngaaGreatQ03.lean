/- The file system: dir, Check at a name of one letter, spot. -/
import Derived.Test.YtlnfadlgjcnngaaGreatQ02
namespace Go.Proofs.YtlnfadlgjcnngaaGreat.Co
open Go.RowKit Go.Maps Go.Lib Go.Proofs.YtlnfadlgjcnngaaGreat.Ap Go.Proofs.YtlnfadlgjcnngaaGreatW.PrintWords Go.Proofs.YtlnfadlgjcnngaaGreatW.PrintLast Go.Proofs.YtlnfadlgjcnngaaGreatW.PrintMore
set_option linter.unusedVariables false
set_option linter.unusedSimpArgs false

/-- what Check says of a name -/
def chk (s : ByteArray) : Int := if 64 < s.size then 63 else if s.data.toList = [] ∨ s.data.toList = [46] ∨ s.data.toList = [46, 46] ∨ containsAny s.data.toList [47, 0] = true then 22 else 0
/-- a good name: strings.ContainsAny is to be known of it -/
structure Good (s : ByteArray) : Prop where
  size : s.size ≤ 64
  none : s.toList ≠ []
  dot : s.toList ≠ [46]
  dots : s.toList ≠ [46, 46]
  any : ∀ w : World, Calls Tryz.prog 88 #[.string s, .string ⟨#[47, 0]⟩] w fun e w' => e = .returned (.bool false) ∧ Below w.heap.size w w'
theorem Good.ascii {s : ByteArray} (h1 : s.size ≤ 64) (h2 : s.toList ≠ []) (h3 : s.toList ≠ [46]) (h4 : s.toList ≠ [46, 46]) (ha : ∀ (j : Nat) b, s.data.toList[j]? = some b → b.toNat < 128) (hc : containsAny s.data.toList [47, 0] = false) : Good s :=
  ⟨h1, h2, h3, h4, fun w => by
    have h := Tryz.strings_ContainsAny_laid s ⟨#[47, 0]⟩ w (by omega) (by decide) ha (by
      intro j b hb
      have : b ∈ ([47, 0] : List UInt8) := List.mem_of_getElem? hb
      simp at this
      rcases this with rfl | rfl <;> decide)
    rw [show (⟨#[47, 0]⟩ : ByteArray).data.toList = [47, 0] from rfl, hc] at h
    exact h⟩
set_option maxRecDepth 100000 in
theorem check_good (s : ByteArray) (w : World) (h : Good s) :
    Calls Tryz.prog 44 #[.string s] w fun e w' => e = .returned (.int .i64 0) ∧ Below w.heap.size w w' := by
  have H := Aside0.mk h
  have hs : (s.size : Int) ≤ 64 := by have := h.size; omega
  have b0 := h.none
  have b1 : s.toList.isEmpty = false := by simpa using h.none
  have b2 : (s.toList == ([46] : List UInt8)) = false := by simpa using h.dot
  have b3 : (s.toList == ([46, 46] : List UInt8)) = false := by simpa using h.dots
  clear h
  go_enter Tryz.func44, Tryz.ntmps44
  go_wp2_with (first
    | (go_at_call 88; (with_reducible refine (H.out.any _).mono ?_); rintro e1 w1 ⟨rfl, hb⟩; have HB := Aside0.mk hb; clear hb))
  go_ret
  exact ⟨rfl, HB.out⟩

set_option maxRecDepth 100000 in
theorem dir_calls (g bN bM : Nat) (last : Int) (F : Int → Option Nat) (m b : Nat) (n : Nd) (now i bits : Int) (w : World) (h : FsAt w g bN bM last F m) (hi : InI i) (hF : F i = some b) (hn : NodeAt w b n) (hk : n.kind = 2) :
    Calls Tryz.prog 43 #[.pointer (some ⟨g, 0, none⟩), rootC now, .int .i64 i, .int .i64 bits] w fun e w' => e = .returned (.tuple #[.pointer (some ⟨b, 0, none⟩), .int .i64 0]) ∧ Below w.heap.size w w' := by
  have H := Aside0.mk h
  have HI := Aside0.mk hi
  have HF := Aside0.mk hF
  have HN := Aside0.mk hn
  have HB := Aside0.mk (Below.refl w.heap.size w)
  have hkk := hk
  clear h hi hF hn hk

  go_enter Tryz.func43, Tryz.ntmps43
  go_wp2_with (first
    | ((with_reducible refine gate_dst (N := 5) rfl ?_); refine Lb.alloc_event ?hg (v := fun g => .pointer (some ⟨g, 0, none⟩)) (cs := #[.int .i64 0, .int .i64 0, .slice none 0 0, .int .i64 now]) (t := 29) (fr := (0, 0)) ?hr ?_; (case hg => rfl); (case hr => first | (go_simp; done) | (go_simp; rfl)); intro g5 hg5 w1 hx hb; have HX := Aside0.mk hx; replace H := Aside0.mk (H.out.step hb); replace HN := Aside0.mk (Lb.blk_below HN.out hb); replace HB := Aside0.mk (below_step HB.out hb); have e0 := (blk_cell hx 0).trans rfl; have e1 := (blk_cell hx 1).trans rfl; have e2 := (blk_cell hx 2).trans rfl; have e3 := (blk_cell hx 3).trans rfl; clear hx hb hg5; have d0 := (NodeAt.cells HN.out).1; rw [hkk] at d0)
    | (go_at_call 38; (with_reducible refine (get_calls g bN bM last F m b i _ H.out HI.out HF.out).mono ?_); rintro e4 w4 ⟨rfl, rfl⟩)
    | (go_at_call 81; (with_reducible refine (may_calls b n now bits _ HN.out).mono ?_); rintro e5 w5 ⟨rfl, hb⟩; replace HB := Aside0.mk (below_step HB.out hb); clear hb))
  go_ret2
  exact ⟨rfl, HB.out⟩
end Go.Proofs.YtlnfadlgjcnngaaGreat.Co
