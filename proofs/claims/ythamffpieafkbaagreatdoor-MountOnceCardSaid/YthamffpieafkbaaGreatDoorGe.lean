/- strings.NewReplacer, (*strings.Replacer).buildOnce and (*strings.Replacer).Replace, the first time. Contracts of the library, laid at this program (written by the kit's own program, plain mode; picked). shape.written: what it makes of a short string. -/
import Derived.Test.YthamffpieafkbaaGreatDoorGd
import Derived.Test.YthamffpieafkbaaGreatDoorOd
import Derived.Handy
import Derived.Shelf.Strings.Builder1
import Derived.Shelf.Strings.Builder2
import Derived.Shelf.LaysM
import Derived.Shelf.Strings.Replace
import Derived.Test.YthamffpieafkbaaGreatDoorProg
import Derived.Test.YthamffpieafkbaaGreatDoorPAx3
namespace Go.Proofs.YthamffpieafkbaaGreatDoor.Rb
open Go.RowKit Go.Lib Go.Proofs.YthamffpieafkbaaGreatDoorW.PrintWords Go.Proofs.YthamffpieafkbaaGreatDoorW.PrintLast Go.Proofs.YthamffpieafkbaaGreatDoorW.PrintMore
set_option linter.unusedVariables false
set_option linter.unusedSimpArgs false

section
variable {P : Program} {ops : Array Oper} {rest : List Oper} {o : Oper} {a : Act} {Q : Exit → Act → World → Prop}
theorem append_nil_event {W : World} (hgd : o.guard = none) (s x : Operand) (t : TypeId) (ho : o.op = .call { callee := .builtin .append, args := #[s, x], argTypes := #[t, t] })
    (e : TypeId) (z : Value) (bytes : Nat) (h1 : P.underlying t = some (.slice e)) (hinfo : (P.info? e).map (fun i => (i.zero, i.size, i.bytes)) = some (some z, 1, bytes))
    (hs : a.eval s = .slice none 0 0) {ad : Addr} {n c : Nat} (hx : a.eval x = .slice (some ad) n c) (vs : List Value) (hl : vs.length = n) (h0 : 0 < n) (hn : n ≤ 1000000) (hb : bytes ≤ 1000000) (hc : ∀ (j : Nat) v, vs[j]? = some v → W.cell? (ad.add j) = some v)
    (h : ∀ g cap row w1, g = W.heap.size → w1.heap[g]? = some (.cells row e (0, 0)) → (∀ (j : Nat) v, vs[j]? = some v → row[j]? = some v) → Below W.heap.size W w1 → wpList P ops Q rest (a.put o.dst (.slice (some ⟨g, 0, none⟩) n cap)) w1) :
    wpList P ops Q (o :: rest) a W := by
  obtain ⟨i, hi, hz⟩ := Option.map_eq_some_iff.1 hinfo
  simp only [Prod.mk.injEq] at hz
  have hrun := run_append_nil (P := P) W t o.type e i z h1 hi hz.1 ad n c vs (by rw [hz.2.1, hl]; omega) hc h0 (by omega) (by rw [hz.2.2]; exact Nat.le_trans (Nat.mul_le_mul hn hb) (by decide))
  refine wpList_plain hgd fun K hK => ?_
  unfold Oper.wp
  simp only [execOp, ho, resolve, invoke, builtin, Sem.run_bind, Sem.run_pure, Result.andThen_ok, List.map_toArray, List.map_cons, List.map_nil, hs, hx, hrun]
  refine hK _ _ (h _ _ _ _ rfl (blk_new W.drew _) (fun j v hj => ?_) ⟨rfl, rfl, rfl, by simp, fun k hk => heap_alloc_old W.drew _ hk⟩)
  have hj' : j < vs.length := (List.getElem?_eq_some_iff.1 hj).1
  rw [Array.getElem?_append_left (by simpa using hj')]
  simpa using hj
end

theorem add_zero' (b j : Nat) : (⟨b, 0, none⟩ : Addr).add j = ⟨b, j, none⟩ := by unfold Addr.add; split <;> simp_all

set_option maxRecDepth 100000 in
set_option maxHeartbeats 4000000 in
theorem newReplacer_calls (ab N cc : Nat) (vs : List Value) (w : World) (hl : vs.length = N) (h0 : 0 < N) (hN : N ≤ 1000) (he : N % 2 = 0) (hc : ∀ (j : Nat) v, vs[j]? = some v → w.cell? ⟨ab, j, none⟩ = some v) :
    Calls Tryz.prog 45 #[.slice (some ⟨ab, 0, none⟩) N cc] w fun e w' => ∃ R ob cap, e = .returned (.pointer (some ⟨R, 0, none⟩)) ∧
      w'.heap[R]? = some (.cells #[.int .u32 0, .int .i32 0, .int .u32 0, .nilIface, .slice (some ⟨ob, 0, none⟩) N cap] 153 (0, 0)) ∧ (∀ (j : Nat) v, vs[j]? = some v → w'.cell? ⟨ob, j, none⟩ = some v) ∧ Below w.heap.size w w' ∧ w.heap.size ≤ R ∧ ob ≠ R := by
  have HC := Aside0.mk hc
  clear hc
  have hm : Int.tmod (N : Int) 2 = 0 := by rw [Int.tmod_eq_emod_of_nonneg (by omega)]; omega
  have hm' : ((N : Int) % 2) = 0 := by omega
  go_enter Tryz.func45, Tryz.ntmps45
  go_wp2_with (first
    | ((with_reducible refine gate_dst (N := 9) rfl ?_); refine append_nil_event rfl (.const (.slice none 0 0)) (.tmp 8) 27 rfl 9 (.string ⟨#[]⟩) 16 Tryz.underlying27 (by kernel_rfl) rfl rfl vs hl h0 (by omega) (by omega) (fun j v hj => by rw [add_zero']; exact HC.out j v hj) ?_; intro ob cap row w1 hob hx1 hrow hb1; have HX1 := Aside0.mk hx1; have HROW := Aside0.mk hrow; have HB1 := Aside0.mk hb1; clear hx1 hrow hb1 hob)
    | ((with_reducible refine gate_dst (N := 11) rfl ?_); refine box_event ?hg (N := 11) ?hd (cs := #[.int .u32 0, .int .i32 0, .int .u32 0, .nilIface, .slice (some ⟨ob, 0, none⟩) N cap]) (t := 153) ?hr ?_; (case hd => rfl); (case hg => rfl); (case hr => first | (go_simp; done) | (go_simp; rfl)); intro R hR w2 hx2 hb2; have HX2 := Aside0.mk hx2; have HB2 := Aside0.mk hb2; have HR := Aside0.mk hR; clear hx2 hb2 hR))
  go_ret
  exact ⟨R, ob, cap, rfl, HX2.out, fun j v hj => (blk_cell (Lb.blk_below HX1.out HB2.out) j).trans (HROW.out j v hj), below_step HB1.out HB2.out, by have := HR.out; have := HB1.out.size; omega, by have := blk_lt HX1.out; have := HR.out; omega⟩

/-- what a Replacer holds that was not built -/
structure Raw (w : World) (R ob n cap : Nat) (L : List (UInt8 × ByteArray)) (c0 c1 c2 : Value) : Prop where
  blk : w.heap[R]? = some (.cells #[c0, c1, c2, .nilIface, .slice (some ⟨ob, 0, none⟩) (2 * n) cap] 153 (0, 0))
  at_ : ∀ i (h : i < L.length), w.cell? ⟨ob, 2 * i, none⟩ = some (.string ⟨#[(L[i]'h).1]⟩) ∧ w.cell? ⟨ob, 2 * i + 1, none⟩ = some (.string (L[i]'h).2)
  len : L.length = n

set_option maxRecDepth 100000 in
set_option maxHeartbeats 4000000 in
theorem buildOnce_calls (R ob n cap : Nat) (L : List (UInt8 × ByteArray)) (c0 c1 c2 : Value) (w : World) (h : Raw w R ob n cap L c0 c1 c2) (h2 : 2 ≤ n) (h100 : n ≤ 100)
    (hone : allOne L = false) (hnd : (L.map (·.1)).Nodup) (hsz : ∀ p ∈ L, p.2.size ≤ 1000) :
    Calls Tryz.prog 70 #[.pointer (some ⟨R, 0, none⟩)] w fun e w' => e = .returned (.tuple #[]) ∧ ∃ rb tb cur, w'.heap[R]? = some (.cells #[c0, c1, c2, .iface 189 (.pointer (some ⟨rb, 0, none⟩)), .slice none 0 0] 153 (0, 0)) ∧
      BI w.heap.size w' rb tb n n (tabOf L) cur ∧ w.grownBy w' (some R) := by
  have hb := build_calls R ob cap n L w ((blk_cell h.blk 4).trans rfl) h.len h2 h100 h.at_ hone hnd hsz
  have HR := Aside0.mk h.blk
  clear h hone hnd hsz
  go_enter Tryz.func70, Tryz.ntmps70
  go_wp2_with (first
    | (go_at_call 86; refine hb.mono ?_; rintro e w1 ⟨rb, tb, cur, rfl, hBI, hBL⟩; have HBI := Aside0.mk hBI; have HBL := Aside0.mk hBL; have HR1 := Aside0.mk (Lb.blk_below HR.out hBL); clear hBI hBL hb)
    | ((with_reducible refine gate_store (t := 151) (p := 6) rfl ?_); refine Lb.store_one rfl rfl 151 (.tmp 6) (.tmp 4) rfl rfl rfl rfl rfl HR1.out (by kernel_rfl) (by simp) ?_; intro w2 hb2 hg2; have HG2 := Aside0.mk hg2; have HX2 := Aside0.mk hb2; clear hb2 hg2)
    | ((with_reducible refine gate_store (t := 27) (p := 9) rfl ?_); refine Lb.store_one rfl rfl 27 (.tmp 9) (.const (.slice none 0 0)) rfl rfl rfl rfl rfl HX2.out (by kernel_rfl) (by simp) ?_; intro w3 hb3 hg3; have HG3 := Aside0.mk hg3; have HX3 := Aside0.mk hb3; clear hb3 hg3))
  go_end0
  have hk : ∀ k, k ≠ R → k < w1.heap.size → w3.heap[k]? = w1.heap[k]? := fun k hk hlt => by
    have e : some k ≠ some R := fun e => hk (by injection e)
    rw [HG3.out.block k (by have := HG2.out.size; omega) e, HG2.out.block k hlt e]
  have hRlt := blk_lt HR.out
  refine ⟨rfl, rb, tb, cur, HX3.out, HBI.out.kept fun j hj hlt => hk j (by omega) hlt, ⟨?_, ?_, ?_, ?_, ?_⟩⟩
  · rw [HG3.out.os, HG2.out.os, HBL.out.os]
  · rw [HG3.out.tape, HG2.out.tape, HBL.out.tape]
  · rw [HG3.out.output, HG2.out.output, HBL.out.output]
  · have := HG3.out.size; have := HG2.out.size; have := HBL.out.size; omega
  · intro k hlt hne
    rw [hk k (fun e => hne (by rw [e])) (by have := HBL.out.size; omega)]
    exact HBL.out.block k hlt

theorem setCell_block (w : World) (g i : Nat) (cur : Array Value) (t : TypeId) (v : Value) (h : w.heap[g]? = some (.cells cur t (0, 0))) : (w.setCell ⟨g, i, none⟩ v).heap[g]? = some (.cells (cur.setIfInBounds i v) t (0, 0)) := by
  rw [setCell_eq_setRow w g i cur t (0, 0) v h]
  exact setRow_heap w g cur _ t (0, 0) h

theorem setCell_grown (w : World) (g i : Nat) (cur : Array Value) (t : TypeId) (v : Value) (h : w.heap[g]? = some (.cells cur t (0, 0))) : w.grownBy (w.setCell ⟨g, i, none⟩ v) (some g) := by
  rw [setCell_eq_setRow w g i cur t (0, 0) v h]
  exact ⟨rfl, rfl, rfl, by simp [World.setRow], fun k _ hk => setRow_other w g k _ (fun e => hk (by rw [e]))⟩

theorem drew_grown (w : World) (r : Option Nat) : w.grownBy w.drew r := ⟨rfl, rfl, rfl, Nat.le_refl _, fun _ _ _ => rfl⟩

theorem grown_trans {a b c : World} {r : Option Nat} (h : a.grownBy b r) (k : b.grownBy c r) : a.grownBy c r :=
  ⟨k.os.trans h.os, k.tape.trans h.tape, k.output.trans h.output, Nat.le_trans h.size k.size, fun i hi hn => (k.block i (Nat.lt_of_lt_of_le hi h.size) hn).trans (h.block i hi hn)⟩

theorem after_once {w2 : World} {R : Nat} {c0 c1 c2 c3 c4 : Value} {t : TypeId} (h : w2.heap[R]? = some (.cells #[c0, c1, c2, c3, c4] t (0, 0))) :
    ((w2.drew.setCell ⟨R, 0, none⟩ (.int .u32 1)).setCell ⟨R, 0 + 1, none⟩ (.int .i32 0)).heap[R]? = some (.cells #[.int .u32 1, .int .i32 0, c2, c3, c4] t (0, 0)) := by
  have h1 := setCell_block w2.drew R 0 _ t (.int .u32 1) h
  have h2 := setCell_block _ R 1 _ t (.int .i32 0) h1
  simpa using h2

theorem after_once_grown {w2 : World} {R : Nat} {c0 c1 c2 c3 c4 : Value} {t : TypeId} (h : w2.heap[R]? = some (.cells #[c0, c1, c2, c3, c4] t (0, 0))) :
    w2.grownBy ((w2.drew.setCell ⟨R, 0, none⟩ (.int .u32 1)).setCell ⟨R, 0 + 1, none⟩ (.int .i32 0)) (some R) := by
  have h1 := setCell_block w2.drew R 0 _ t (.int .u32 1) h
  exact grown_trans (grown_trans (drew_grown w2 _) (setCell_grown w2.drew R 0 _ t _ h)) (setCell_grown _ R 1 _ t _ h1)

theorem repl_le (T : Nat → Option (List UInt8)) (hT : ∀ c bs, T c = some bs → bs.length ≤ 1000) : ∀ l : List UInt8, (repl T l).length ≤ 1000 * l.length
  | [] => Nat.le_refl _
  | c :: r => by
    have ih := repl_le T hT r
    have e : repl T (c :: r) = one T c ++ repl T r := rfl
    have h1 : (one T c).length ≤ 1000 := by
      unfold one
      cases h : T c.toNat with
      | none => simp
      | some bs => exact hT _ bs h
    rw [e, List.length_append, List.length_cons]
    omega

theorem tabOf_le : ∀ (L : List (UInt8 × ByteArray)), (∀ p ∈ L, p.2.size ≤ 1000) → ∀ c bs, tabOf L c = some bs → bs.length ≤ 1000
  | [], _, c, bs, h => by cases h
  | p :: r, hL, c, bs, h => by
    rw [tabOf] at h
    split at h
    · injection h with h
      subst h
      have := hL p (by simp)
      rw [← size_eq]; exact this
    · exact tabOf_le r (fun q hq => hL q (by simp [hq])) c bs h

set_option maxRecDepth 100000 in
set_option maxHeartbeats 4000000 in
theorem replacer_calls (R ob n cap : Nat) (L : List (UInt8 × ByteArray)) (s : ByteArray) (w : World) (h : Raw w R ob n cap L (.int .u32 0) (.int .i32 0) (.int .u32 0)) (hne : ob ≠ R) (h2 : 2 ≤ n) (h100 : n ≤ 100)
    (hone : allOne L = false) (hnd : (L.map (·.1)).Nodup) (hsz : ∀ p ∈ L, p.2.size ≤ 1000) (hs : s.size < 8 * n) :
    Calls Tryz.prog 46 #[.pointer (some ⟨R, 0, none⟩), .string s] w fun e w' => e = .returned (.string ⟨(repl (tabOf L) s.data.toList).toArray⟩) ∧ w.grownBy w' (some R) := by
  have hraw : Raw (w.setCell ⟨R, 1, none⟩ (.int .i32 1)) R ob n cap L (.int .u32 0) (.int .i32 1) (.int .u32 0) := ⟨setCell_block w R 1 _ _ _ h.blk, fun i hi => ⟨(World.cell?_setCell_other _ _ _ _ (by simp [hne])).trans (h.at_ i hi).1, (World.cell?_setCell_other _ _ _ _ (by simp [hne])).trans (h.at_ i hi).2⟩, h.len⟩
  have hcb := buildOnce_calls R ob n cap L _ _ _ _ hraw h2 h100 hone hnd hsz
  have hdo := PA.do_first R 0 70 Tryz.f70 #[.pointer (some ⟨R, 0, none⟩)] Tryz.func70 (by kernel_rfl) (by kernel_rfl)
    (fun w' => ∃ rb tb cur, w'.heap[R]? = some (.cells #[.int .u32 0, .int .i32 1, .int .u32 0, .iface 189 (.pointer (some ⟨rb, 0, none⟩)), .slice none 0 0] 153 (0, 0)) ∧
      BI w.heap.size w' rb tb n n (tabOf L) cur ∧ w.grownBy w' (some R)) w ((blk_cell h.blk 0).trans rfl) ((blk_cell h.blk 1).trans rfl) (by simp [World.frozen?, h.blk])
    (hcb.mono fun e w' ⟨he, rb, tb, cur, h1, h2, h3⟩ => ⟨he, rb, tb, cur, h1, (by simpa using h2), grown_trans (setCell_grown w R 1 _ _ _ h.blk) h3⟩)
    (fun w' ⟨rb, tb, cur, h1, _, _⟩ => ⟨(blk_cell h1 0).trans rfl, (blk_cell h1 1).trans rfl, by simp [World.frozen?, h1], by simp [World.frozen?, h1]⟩)
  have hrl := repl_le (tabOf L) (tabOf_le L hsz) s.data.toList
  have HSZ : Aside0 (s.size + (repl (tabOf L) s.data.toList).length ≤ 140737488355328) := ⟨by have := size_eq s; omega⟩
  clear hrl
  have HS := Aside0.mk hs
  have HRLT := Aside0.mk (blk_lt h.blk)
  clear h hraw hcb hone hnd hsz hne
  go_enter Tryz.func46, Tryz.ntmps46
  go_wp2_with (first
    | (go_at_call 69; refine hdo.mono ?_; rintro e w1 ⟨rfl, w2, ⟨rb, tb, cur, h1, h2, h3⟩, hw1⟩; have hb1 := after_once h1; rw [← hw1] at hb1; have HB := Aside0.mk h1; have HBI := Aside0.mk h2; have HG := Aside0.mk h3; have HW := Aside0.mk hw1; clear h1 h2 h3 hw1 hdo; have HX := Aside0.mk hb1; have hx3 := (blk_cell HX.out 3).trans rfl; clear hb1)
    | (go_at_call 157; have hG := after_once_grown HB.out; rw [← HW.out] at hG; have hBI1 := HBI.out.kept (fun j hj hlt => hG.block j hlt (fun e => by injection e with e; have := HRLT.out; omega)); have HG1 := Aside0.mk (grown_trans HG.out hG); refine (replace_short rb (tabOf L) s (some ⟨tb, 0, none⟩) n n w1 hBI1.tab ((blk_cell hBI1.hr 256).trans hBI1.hlast) (by have := HS.out; omega) (by omega) HSZ.out).mono ?_; rintro e w4 ⟨rfl, hb4⟩; have HB4 := Aside0.mk hb4; clear hG hBI1 hb4))
  go_ret
  refine ⟨rfl, grown_trans HG1.out ⟨HB4.out.os, HB4.out.tape, HB4.out.output, HB4.out.size, fun k hk _ => HB4.out.block k hk⟩⟩
end Go.Proofs.YthamffpieafkbaaGreatDoor.Rb

namespace Go.Proofs
open Go.Shelf
def Tryz.lays155_ren : Go.Shelf.Ren := ⟨fun | 155 => 44 | 154 => 68 | 138 => 78 | 165 => 79 | 143 => 80 | 166 => 81 | 197 => 82 | 169 => 83 | 195 => 87 | 218 => 88 | 240 => 89 | 241 => 90 | 219 => 91 | 260 => 92 | 276 => 99 | 277 => 100 | 217 => 101 | 225 => 102 | 224 => 103 | 267 => 104 | 266 => 111 | 314 => 112 | n => n, fun | 9 => 9 | 3 => 3 | 4 => 4 | 72 => 164 | 0 => 0 | 76 => 167 | 105 => 169 | 21 => 21 | 5 => 5 | 70 => 162 | 20 => 20 | 37 => 56 | 75 => 166 | 127 => 174 | 164 => 190 | 46 => 193 | 119 => 183 | 139 => 196 | 138 => 195 | 146 => 211 | 51 => 141 | 80 => 90 | n => n, fun | 1 => 0 | 3 => 1 | 4 => 2 | n => n⟩
theorem Tryz.lays155 : Go.Proofs.Lays.n155 Tryz.prog Tryz.lays155_ren := {
  mixed := by kernel_rfl
  f138 := Tryz.func78.trans (congrArg some (by kernel_rfl))
  f143 := Tryz.func80.trans (congrArg some (by kernel_rfl))
  f154 := Tryz.func68.trans (congrArg some (by kernel_rfl))
  f155 := Tryz.func44.trans (congrArg some (by kernel_rfl))
  f165 := Tryz.func79.trans (congrArg some (by kernel_rfl))
  f166 := Tryz.func81.trans (congrArg some (by kernel_rfl))
  f169 := Tryz.func83.trans (congrArg some (by kernel_rfl))
  f195 := Tryz.func87.trans (congrArg some (by kernel_rfl))
  f197 := Tryz.func82.trans (congrArg some (by kernel_rfl))
  f217 := Tryz.func101.trans (congrArg some (by kernel_rfl))
  f218 := Tryz.func88.trans (congrArg some (by kernel_rfl))
  f219 := Tryz.func91.trans (congrArg some (by kernel_rfl))
  f224 := Tryz.func103.trans (congrArg some (by kernel_rfl))
  f225 := Tryz.func102.trans (congrArg some (by kernel_rfl))
  f240 := Tryz.func89.trans (congrArg some (by kernel_rfl))
  f241 := Tryz.func90.trans (congrArg some (by kernel_rfl))
  f260 := Tryz.func92.trans (congrArg some (by kernel_rfl))
  f266 := Tryz.func111.trans (congrArg some (by kernel_rfl))
  f267 := Tryz.func104.trans (congrArg some (by kernel_rfl))
  f276 := Tryz.func99.trans (congrArg some (by kernel_rfl))
  f277 := Tryz.func100.trans (congrArg some (by kernel_rfl))
  f314 := Tryz.func112.trans (congrArg some (by kernel_rfl))
  t0 := Tryz.underlying0
  a0 := Tryz.isAgg0
  z0 := Tryz.sizeOf0
  v0 := Tryz.zeroValue0
  t3 := Tryz.underlying3
  a3 := Tryz.isAgg3
  z3 := Tryz.sizeOf3
  v3 := Tryz.zeroValue3
  t4 := Tryz.underlying4
  a4 := Tryz.isAgg4
  z4 := Tryz.sizeOf4
  v4 := Tryz.zeroValue4
  t5 := Tryz.underlying5
  a5 := Tryz.isAgg5
  z5 := Tryz.sizeOf5
  v5 := Tryz.zeroValue5
  t9 := Tryz.underlying9
  a9 := Tryz.isAgg9
  z9 := Tryz.sizeOf9
  v9 := Tryz.zeroValue9
  t20 := Tryz.underlying20
  a20 := Tryz.isAgg20
  z20 := Tryz.sizeOf20
  v20 := Tryz.zeroValue20
  t21 := Tryz.underlying21
  a21 := Tryz.isAgg21
  z21 := Tryz.sizeOf21
  v21 := Tryz.zeroValue21
  t37 := Tryz.underlying56
  a37 := Tryz.isAgg56
  z37 := Tryz.sizeOf56
  v37 := Tryz.zeroValue56
  t46 := Tryz.underlying193
  a46 := Tryz.isAgg193
  z46 := Tryz.sizeOf193
  v46 := Tryz.zeroValue193
  t51 := Tryz.underlying141
  a51 := Tryz.isAgg141
  z51 := Tryz.sizeOf141
  v51 := Tryz.zeroValue141
  t70 := Tryz.underlying162
  a70 := Tryz.isAgg162
  z70 := Tryz.sizeOf162
  v70 := Tryz.zeroValue162
  t72 := Tryz.underlying164
  a72 := Tryz.isAgg164
  z72 := Tryz.sizeOf164
  v72 := Tryz.zeroValue164
  t75 := Tryz.underlying166
  a75 := Tryz.isAgg166
  z75 := Tryz.sizeOf166
  v75 := Tryz.zeroValue166
  t76 := Tryz.underlying167
  a76 := Tryz.isAgg167
  z76 := Tryz.sizeOf167
  v76 := Tryz.zeroValue167
  t105 := Tryz.underlying169
  a105 := Tryz.isAgg169
  z105 := Tryz.sizeOf169
  v105 := Tryz.zeroValue169
  t119 := Tryz.underlying183
  a119 := Tryz.isAgg183
  z119 := Tryz.sizeOf183
  t127 := Tryz.underlying174
  a127 := Tryz.isAgg174
  z127 := Tryz.sizeOf174
  v127 := Tryz.zeroValue174
  t138 := Tryz.underlying195
  a138 := Tryz.isAgg195
  z138 := Tryz.sizeOf195
  v138 := Tryz.zeroValue195
  t139 := Tryz.underlying196
  a139 := Tryz.isAgg196
  z139 := Tryz.sizeOf196
  v139 := Tryz.zeroValue196
  t146 := Tryz.underlying211
  a146 := Tryz.isAgg211
  z146 := Tryz.sizeOf211
  v146 := Tryz.zeroValue211
  t164 := Tryz.underlying190
  a164 := Tryz.isAgg190
  z164 := Tryz.sizeOf190
  v164 := Tryz.zeroValue190
  g1 := by kernel_rfl
  g3 := by kernel_rfl
  g4 := by kernel_rfl }
theorem Tryz.Builder_Extra_155 : Builder.Extra Tryz.prog Tryz.lays155_ren := {
  sizeBuilder := by kernel_rfl
  liesBuilder := by kernel_rfl
  t5 := Tryz.underlying5
  a5 := Tryz.isAgg5
  z5 := Tryz.sizeOf5
  v5 := Tryz.zeroValue5
  infoByte := by kernel_rfl
  cellsByte := by kernel_rfl
  sizeByte := by kernel_rfl
  neB5 := by decide }
open Go.RowKit Go.Lib in
theorem Tryz.strings_ReplaceAll (s old new : ByteArray) (m : Int) (w : World) (hs : s.size < 4294967281) (hm : w.cell? ⟨0, 0, none⟩ = some (.int .i64 m)) (h1 : 1 ≤ old.size) (hlen : s.size + Lib.countB s old * new.size ≤ 140737488355328) :
    Calls Tryz.prog 44 #[.string s, .string old, .string new] w fun e w' =>
      e = .returned (.string ⟨(Lib.replaceAll s.data.toList old.data.toList new.data.toList).toArray⟩) ∧ Below w.heap.size w w' := Any.strings_ReplaceAll Tryz.lays155 Tryz.Builder_Extra_155 s old new m w hs hm h1 hlen
end Go.Proofs

namespace Go.Proofs.YthamffpieafkbaaGreatDoor.Rb
open Go.RowKit Go.Lib Go.Proofs.YthamffpieafkbaaGreatDoorW.PrintWords Go.Proofs.YthamffpieafkbaaGreatDoorW.PrintLast Go.Proofs.YthamffpieafkbaaGreatDoorW.PrintMore
set_option linter.unusedVariables false
set_option linter.unusedSimpArgs false

def bA : ByteArray := ⟨#[117, 117, 117, 117, 117, 113, 113, 117, 117, 113, 113, 117, 117, 117, 117, 117, 117]⟩
def bS : ByteArray := ⟨#[63, 40, 117, 41, 63, 40, 117, 41, 63, 40, 117, 41, 63, 40, 113, 41, 60, 48, 58, 44, 49, 58, 44, 50, 58, 117, 117, 62, 60, 48, 58, 44, 49, 58, 44, 50, 58, 117, 117, 62]⟩
def bW : ByteArray := ⟨#[63, 40, 113, 117, 117, 117, 117, 41, 80]⟩
def bP : ByteArray := (⟨#[63, 40]⟩ ++ bA) ++ ⟨#[41]⟩
def pairs : List (UInt8 × ByteArray) := [(80, bP), (72, ⟨#[111, 54, 52]⟩), (78, ⟨#[111, 50, 53, 53]⟩), (84, ⟨#[111, 49, 48, 50, 52]⟩), (68, ⟨#[111, 53, 49, 50]⟩), (65, bA), (83, bS)]
def vsOf : List (UInt8 × ByteArray) → List Value
  | [] => []
  | p :: r => .string ⟨#[p.1]⟩ :: .string p.2 :: vsOf r

theorem vsOf_at : ∀ (L : List (UInt8 × ByteArray)) (i : Nat) (h : i < L.length), (vsOf L)[2 * i]? = some (.string ⟨#[(L[i]'h).1]⟩) ∧ (vsOf L)[2 * i + 1]? = some (.string (L[i]'h).2)
  | [], i, h => by simp at h
  | p :: r, 0, h => ⟨rfl, rfl⟩
  | p :: r, i + 1, h => by
    have ih := vsOf_at r i (by simpa using h)
    have e1 : 2 * (i + 1) = 2 * i + 1 + 1 := by omega
    rw [e1]
    exact ih

/-- what is written for a string -/
def wr1 (l : List UInt8) : List UInt8 := Lib.replaceAll l [87] bW.data.toList
def wr (l : List UInt8) : List UInt8 := repl (tabOf pairs) (wr1 l)

theorem pairs_one : allOne pairs = false := by kernel_rfl
theorem pairs_nodup : (pairs.map (·.1)).Nodup := by decide
theorem pairs_small : ∀ p ∈ pairs, p.2.size ≤ 1000 := by
  intro p hp
  exact of_decide_eq_true ((List.all_eq_true.1 (show (pairs.all fun p => decide (p.2.size ≤ 1000)) = true by kernel_rfl)) p hp)
theorem form_is : PA.attr_Form.f = some (bA, bS) := rfl

set_option maxRecDepth 100000 in
set_option maxHeartbeats 4000000 in
theorem written_calls (s : ByteArray) (m : Int) (w : World) (hm : w.cell? ⟨0, 0, none⟩ = some (.int .i64 m)) (hs : s.size ≤ 1000) (hl : (wr1 s.data.toList).length < 56) :
    Calls Tryz.prog 29 #[.string s] w fun e w' => e = .returned (.string ⟨(wr s.data.toList).toArray⟩) ∧ Below w.heap.size w w' := by
  have hF := PA.attr_Form.calls bA bS w form_is
  have hcnt := Lib.countB_mul_le ⟨#[87]⟩ (by decide) s.size s (Nat.le_refl _)
  have hR : ∀ W : World, W.cell? ⟨0, 0, none⟩ = some (.int .i64 m) → Calls Tryz.prog 44 #[.string s, .string ⟨#[87]⟩, .string bW] W fun e w' => e = .returned (.string ⟨(wr1 s.data.toList).toArray⟩) ∧ Below W.heap.size W w' := fun W hW => Tryz.strings_ReplaceAll s ⟨#[87]⟩ bW m W (by omega) hW (by decide) (by
    have e1 : (⟨#[87]⟩ : ByteArray).size = 1 := rfl
    have e2 : bW.size = 9 := rfl
    rw [e1] at hcnt
    rw [e2]
    omega)
  have HL := Aside0.mk hl
  have HM := Aside0.mk hm
  obtain ⟨t, ht⟩ : ∃ t : ByteArray, t = ⟨(wr1 s.data.toList).toArray⟩ := ⟨_, rfl⟩
  rw [← ht] at hR
  have HT := Aside0.mk ht
  clear hcnt hl hm ht
  go_enter Tryz.func29, Tryz.ntmps29
  go_wp2_with (first
    | (go_at_call 43; refine hF.mono ?_; rintro e w0 ⟨rfl, hw0⟩; have HW0 : Aside0 (Below w.heap.size w w0) := ⟨by obtain ⟨m0, rfl⟩ := hw0; exact ⟨rfl, rfl, rfl, Nat.le_refl _, fun _ _ => rfl⟩⟩; clear hF hw0)
    | (go_at_call 44; refine (hR _ (Lib.Below.cellOf HW0.out HM.out (Nat.le_refl _))).mono ?_; rintro e w1 ⟨rfl, hw1⟩; have HW1 := Aside0.mk (below_step HW0.out hw1); clear hR hw1)
    | ((with_reducible refine gate_dst (N := 16) rfl ?_); refine Lb.alloc_event ?hg (v := fun g => .slice (some ⟨g, 0, none⟩) 14 14) (cs := (vsOf pairs).toArray) (t := 9) (fr := (0, 0)) ?hr ?_; (case hg => rfl); (case hr => first | (go_simp; done) | (go_simp; rfl)); intro ab hab w2 hx2 hb2; have HX2 := Aside0.mk hx2; have HW2 := Aside0.mk (below_step HW1.out hb2); clear hx2 hb2 hab)
    | (go_at_call 45; refine (newReplacer_calls ab 14 14 (vsOf pairs) _ rfl (by decide) (by decide) (by decide) (fun j v hj => (blk_cell HX2.out j).trans (by rw [List.getElem?_toArray]; exact hj))).mono ?_; rintro e w3 ⟨R, ob, cap, rfl, hR, hc, hb, hge, hne⟩; have HR := Aside0.mk hR; have HC := Aside0.mk hc; have HW3 := Aside0.mk (below_step HW2.out hb); have HGE := Aside0.mk (Nat.le_trans HW2.out.size hge); have HNE := Aside0.mk hne; clear hR hc hb hge hne)
    | (go_at_call 46; refine (replacer_calls R ob 7 cap pairs t _ ⟨HR.out, fun i hi => ⟨HC.out _ _ (vsOf_at pairs i hi).1, HC.out _ _ (vsOf_at pairs i hi).2⟩, rfl⟩ HNE.out (by decide) (by decide) pairs_one pairs_nodup pairs_small (by rw [HT.out]; have := HL.out; show (wr1 s.data.toList).toArray.size < 56; simpa using this)).mono ?_; rintro e w4 ⟨rfl, hg⟩; have HG := Aside0.mk hg; clear hg))
  go_ret
  refine ⟨?_, Lb.grown_below HW3.out HG.out HW3.out.size HGE.out⟩
  rw [HT.out]
  rfl
end Go.Proofs.YthamffpieafkbaaGreatDoor.Rb
