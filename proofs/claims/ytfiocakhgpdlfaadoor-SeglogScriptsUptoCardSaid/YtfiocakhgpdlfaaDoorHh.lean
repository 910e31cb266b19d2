/- Open, Append, Drop under the plain law's invariants. Format and Append where the power does not go off; speaks; SeglogNil's walk. -/
import Derived.Test.YtfiocakhgpdlfaaDoorG40
import Derived.Test.YtfiocakhgpdlfaaDoorG41
namespace Go.Proofs.YtfiocakhgpdlfaaDoor.Sg
open Go.RowKit Go.Lib Go.Proofs.YtfiocakhgpdlfaaDoor.Ap Go.Proofs.YtfiocakhgpdlfaaDoorW.PrintWords Go.Proofs.YtfiocakhgpdlfaaDoorW.PrintLast Go.Proofs.YtfiocakhgpdlfaaDoorW.PrintMore
set_option linter.unusedVariables false
set_option linter.unusedSimpArgs false

theorem append_calls (B gl gd : Nat) (d : Dk) (serial boot seq : Nat) (pre : List Seg) (id used place : Nat) (vS : Value) (body : List UInt8) (R : Dk × Lg × Res) (w : World) (hl : LRaw B w gl gd ⟨⟨serial, boot, seq, pre ++ [⟨id, used⟩]⟩, place⟩ vS) (hd : DAt B w gd d) (hok : SegsOk (segsN d.now) (pre ++ [⟨id, used⟩]))
    (hs1 : serial ≤ top) (hs2 : boot ≤ top) (hs3 : seq ≤ top) (hp : place ≤ 1) (hq : d.queue.length ≤ 10) (h66 : 66 ≤ d.now.length) (hbl : body.length ≤ 1000000) (hR : append d ⟨⟨serial, boot, seq, pre ++ [⟨id, used⟩]⟩, place⟩ body = R) :
    Calls Tryd.prog 12 #[.pointer (some ⟨gl, 0, none⟩), .string (toB body)] w (APost B gl gd w R) := by
  by_cases h : ¬ 16 < partsN body.length ∧ ¬ top ≤ seq ∧ fits ⟨⟨serial, boot, seq, pre ++ [⟨id, used⟩]⟩, place⟩ body.length = false
  · exact append_b B gl gd d serial boot seq pre id used place vS body R w hl hd hok hs1 hs2 hs3 hp hq h66 hbl hR h.1 h.2.1 h.2.2
  · refine append_a B gl gd d serial boot seq pre id used place vS body R w hl hd hok hs1 hs2 hs3 hp hq h66 hbl hR fun hf => ?_
    by_cases h1 : 16 < partsN body.length
    · exact .inl h1
    · by_cases h2 : top ≤ seq
      · exact .inr h2
      · exact absurd ⟨h1, h2, hf⟩ h
/-- a log's checkpoint, its last segment apart -/
theorem lg_split (l : Lg) (h : l.cp.segs ≠ []) : ∃ serial boot seq pre id used place, l = ⟨⟨serial, boot, seq, pre ++ [⟨id, used⟩]⟩, place⟩ ∧ l.cp.serial = serial ∧ l.cp.boot = boot ∧ l.cp.seq = seq ∧ l.place = place ∧ l.cp.segs = pre ++ [⟨id, used⟩] := by
  obtain ⟨⟨serial, boot, seq, segs⟩, place⟩ := l
  have hs := last_split (c := ⟨serial, boot, seq, segs⟩) h
  simp only at hs
  refine ⟨serial, boot, seq, segs.dropLast, (lastSeg ⟨serial, boot, seq, segs⟩).id, (lastSeg ⟨serial, boot, seq, segs⟩).used, place, ?_, rfl, rfl, rfl, rfl, hs⟩
  rw [show (⟨(lastSeg ⟨serial, boot, seq, segs⟩).id, (lastSeg ⟨serial, boot, seq, segs⟩).used⟩ : Seg) = lastSeg ⟨serial, boot, seq, segs⟩ from rfl, ← hs]
theorem append_at (B gl gd : Nat) (d : Dk) (l : Lg) (all : List Rec) (body : List UInt8) (w : World) (hl : LAt B w gl gd l) (hd : DAt B w gd d) (hi : I d l all) (hs : l.cp.serial ≤ top) (hb : l.cp.boot ≤ top) (hq : l.cp.seq ≤ top) (hbl : body.length ≤ 1000000) :
    Calls Tryd.prog 12 #[.pointer (some ⟨gl, 0, none⟩), .string (toB body)] w (APost B gl gd w (append d l body)) := by
  obtain ⟨vS, hl⟩ := hl
  have hc := hi.c.cur
  have hok := hc.ok hq
  have hp := hi.c.here.1
  obtain ⟨serial, boot, seq, pre, id, used, place, rfl, -, -, -, -, -⟩ := lg_split l hc.ne
  exact append_calls B gl gd d serial boot seq pre id used place vS body _ w hl hd hok.segs hs hb hq hp (by rw [hi.idle.queue]; simp) hc.len hbl rfl
theorem drop_at (B gl gd : Nat) (d : Dk) (l : Lg) (all : List Rec) (id : Int) (w : World) (hl : LAt B w gl gd l) (hd : DAt B w gd d) (hi : I d l all) (hs : l.cp.serial ≤ top) (hb : l.cp.boot ≤ top) (hq : l.cp.seq ≤ top) :
    Calls Tryd.prog 17 #[.pointer (some ⟨gl, 0, none⟩), .int .i64 id] w fun e w' => e = .returned (.int .i64 (drop d l id).2.2) ∧ DAt B w' gd (drop d l id).1 ∧ LAt B w' gl gd (drop d l id).2.1 ∧ FrL B w w' := by
  obtain ⟨vS, hl⟩ := hl
  have hc := hi.c.cur
  have hok := hc.ok hq
  have hp := hi.c.here.1
  obtain ⟨⟨serial, boot, seq, segs⟩, place⟩ := l
  exact drop_calls B gl gd d serial boot seq segs place vS id _ _ _ w hl hd (List.length_pos_iff.2 hc.ne) hok.segs hs hb hq hp (by rw [hi.idle.queue]; simp) (by have := hc.len; omega) rfl

/-- what Open comes to -/
def OpenRes (B gd : Nat) (w : World) (d : Dk) (cur : Cp) (place : Nat) (all : List Rec) (e : Ending) (w' : World) : Prop :=
  (∃ d' gl v, e = .returned (.tuple #[.pointer (some ⟨gl, 0, none⟩), v, .int .i64 0]) ∧ DAt B w' gd d' ∧ LAt B w' gl gd ⟨booted cur, 1 - place⟩ ∧ RecsAt B w' v all ∧ FrL B w w' ∧ I d' ⟨booted cur, 1 - place⟩ all ∧ d'.left ≤ d.left ∧ d'.now.length = d.now.length) ∨
  (∃ d', e = .returned (.tuple #[.pointer none, .slice none 0 0, .int .i64 20]) ∧ DAt B w' gd d' ∧ FrL B w w' ∧ Dead d' ∧ d.left ≠ 0 ∧ d'.now.length = d.now.length ∧ (C d'.now cur place all ∨ C d'.now (booted cur) (1 - place) all))
theorem open_at (B gd : Nat) (d : Dk) (cur : Cp) (place : Nat) (all : List Rec) (w : World) (hd : DAt B w gd d) (hi : Idle d) (hC : C d.now cur place all) (hs : cur.serial < top) (hb : cur.boot < top) (hq : cur.seq < top) (hall : all.length ≤ 100000) :
    Calls Tryd.prog 11 #[.pointer (some ⟨gd, 0, none⟩)] w (OpenRes B gd w d cur place all) := by
  have hsp := open_spec hi hC hs hb hq
  obtain ⟨c, all0, rs, e, hJ, rfl, rfl⟩ := hC
  have hok := hJ.ok
  have hpk := pick_J hJ
  have hpl := hJ.pl
  have hlast := last_split hok.ne
  obtain ⟨serial, boot, seq, segs⟩ := c
  obtain ⟨⟨id, used⟩, hls⟩ : ∃ s, lastSeg ⟨serial, boot, seq, segs⟩ = s := ⟨_, rfl⟩
  obtain ⟨pre, hpre⟩ : ∃ pre, segs.dropLast = pre := ⟨_, rfl⟩
  rw [hls] at hlast
  simp only [hpre] at hlast
  subst hlast
  have h1 : seq + rs.length < top := hq
  have hlen : (pre ++ [(⟨id, used⟩ : Seg)]).length ≤ segsN d.now := hok.segs.len
  have h64 := segsN_le d.now
  rw [List.length_append, List.length_singleton] at hlen
  have hkn : known d.now seq (pre ++ [⟨id, used⟩]) [] = some all0 := known_of _ all0 [] hJ.laid hok.segs.used (by simpa using hJ.rising) hJ.below
  have htl := hJ.tail
  rw [hls] at htl
  have hst := hJ.stop
  rw [hls] at hst
  have hrl := htl.le
  have hfu := further_of (sec := segOf d.now id) 17 rs used seq all0 htl hJ.e16 (by have := hJ.e16; omega) h1 hst
  obtain ⟨⟨d2, l2, r2⟩, hr⟩ : ∃ x, save d ⟨⟨serial, boot, seq + rs.length, pre ++ [⟨id, e⟩]⟩, place⟩ ⟨serial + 1, boot + 1, seq + rs.length, pre ++ [⟨id, e⟩]⟩ = x := ⟨_, rfl⟩
  have hcall := open_calls B gd d serial boot seq pre id used place all0 e (seq + rs.length) (all0 ++ rs) d2 l2 r2 w hd hi.off (by rw [hi.queue]; simp) hJ.len hpk hpl hok.serial hok.boot hok.seq (by omega) (fun s hs => ⟨hok.segs.id s hs, hok.segs.used s hs⟩) hkn (by rw [List.length_append] at hall; omega) hfu hJ.e16 h1 hr
  have hol : openL d = if r2 ≠ 0 then .bad d2 r2 else .ok d2 l2 (all0 ++ rs) := by
    unfold openL
    rw [if_neg (by rw [hi.off]; simp), hpk]
    simp only [hkn]
    rw [hls]
    simp only [hfu]
    have e1 : setLast ⟨serial, boot, seq, pre ++ [⟨id, used⟩]⟩ e (seq + rs.length) = ⟨serial, boot, seq + rs.length, pre ++ [⟨id, e⟩]⟩ := by unfold setLast; rw [hls]; simp
    rw [e1]
    rw [if_neg (by show ¬ top ≤ seq + rs.length; omega)]
    have e2 : ({ nextC ⟨⟨serial, boot, seq + rs.length, pre ++ [⟨id, e⟩]⟩, place⟩ (pre ++ [⟨id, e⟩]) with boot := boot + 1 } : Cp) = ⟨serial + 1, boot + 1, seq + rs.length, pre ++ [⟨id, e⟩]⟩ := rfl
    rw [e2, hr]
  refine hcall.mono fun e9 w' hpost => ?_
  obtain ⟨p1, p2, p3⟩ := hpost
  rcases p3 with ⟨h0, gl, v, he, hL, hR⟩ | ⟨h0, he⟩
  · simp only at h0
    subst h0
    rw [if_neg (by simp)] at hol
    rcases hsp with ⟨d', ho, hI, hle, hln⟩ | ⟨d', ho, _⟩
    · rw [hol] at ho
      injection ho with o1 o2 o3
      subst o1 o2
      exact .inl ⟨d2, gl, v, he, p1, hL, hR, p2, hI, hle, hln⟩
    · rw [hol] at ho; cases ho
  · simp only at h0
    rw [if_pos h0] at hol
    rcases hsp with ⟨d', ho, _⟩ | ⟨d', ho, hD, hne, hln, hcc⟩
    · rw [hol] at ho; cases ho
    · rw [hol] at ho
      injection ho with o1 o2
      subst o1 o2
      exact .inr ⟨d2, he, p1, p2, hD, hne, hln, hcc⟩
/-- Open where the power does not go off -/
theorem open_on (B gd : Nat) (d : Dk) (cur : Cp) (place : Nat) (all : List Rec) (w : World) (hd : DAt B w gd d) (hi : Idle d) (hleft : d.left = 0) (hC : C d.now cur place all) (hs : cur.serial < top) (hb : cur.boot < top) (hq : cur.seq < top) (hall : all.length ≤ 100000) :
    Calls Tryd.prog 11 #[.pointer (some ⟨gd, 0, none⟩)] w fun e w' => ∃ d' gl v, e = .returned (.tuple #[.pointer (some ⟨gl, 0, none⟩), v, .int .i64 0]) ∧ DAt B w' gd d' ∧ LAt B w' gl gd ⟨booted cur, 1 - place⟩ ∧ RecsAt B w' v all ∧ FrL B w w' ∧ I d' ⟨booted cur, 1 - place⟩ all ∧ d'.left = 0 ∧ d'.now.length = d.now.length :=
  (open_at B gd d cur place all w hd hi hC hs hb hq hall).mono fun e w' h => by
    rcases h with ⟨d', gl, v, h1, h2, h3, h4, h5, h6, h7, h8⟩ | ⟨d', h1, h2, h3, h4, h5, h6⟩
    · exact ⟨d', gl, v, h1, h2, h3, h4, h5, h6, by omega, h8⟩
    · exact absurd hleft h5
end Go.Proofs.YtfiocakhgpdlfaaDoor.Sg

namespace Go.Proofs.YtfiocakhgpdlfaaDoor.Sg
open Go.RowKit Go.Lib Go.Proofs.YtfiocakhgpdlfaaDoor.Ap Go.Proofs.YtfiocakhgpdlfaaDoorW.PrintWords Go.Proofs.YtfiocakhgpdlfaaDoorW.PrintLast Go.Proofs.YtfiocakhgpdlfaaDoorW.PrintMore
set_option linter.unusedVariables false
set_option linter.unusedSimpArgs false

theorem format_onS (B gd n : Nat) (w : World) (hn : 66 ≤ n) (hd : DAt B w gd (Dk.mk0 n)) :
    Calls Tryd.prog 10 #[.pointer (some ⟨gd, 0, none⟩)] w fun e w' => ∃ d, e = .returned (.int .i64 0) ∧ DAt B w' gd d ∧ FrS B w w' ∧ Idle d ∧ d.left = 0 ∧ d.now.length = n ∧ C d.now cp0 0 [] := by
  obtain ⟨h1, h2, h3, h4, h5⟩ := format_spec n hn
  have hl : (Dk.mk0 n).now.length = n := by simp [Dk.mk0]
  unfold format at h1 h2 h3 h4 h5
  obtain ⟨⟨D1, r1⟩, e1⟩ : ∃ x, (Dk.mk0 n).write 1 ⟨#[]⟩ = x := ⟨_, rfl⟩
  rw [e1] at h1 h2 h3 h4 h5
  simp only at h1 h2 h3 h4 h5
  have hr1 : r1 = 0 := by
    rcases Decidable.em (r1 = 0) with h | h
    · exact h
    · rw [if_pos h] at h1; exact h1
  subst hr1
  rw [if_neg (by simp)] at h1 h2 h3 h4 h5
  obtain ⟨⟨D2, r2⟩, e2⟩ : ∃ x, D1.write 0 (toB cp0.bytes) = x := ⟨_, rfl⟩
  rw [e2] at h1 h2 h3 h4 h5
  simp only at h1 h2 h3 h4 h5
  have hr2 : r2 = 0 := by
    rcases Decidable.em (r2 = 0) with h | h
    · exact h
    · rw [if_pos h] at h1; exact h1
  subst hr2
  rw [if_neg (by simp)] at h1 h2 h3 h4 h5
  refine (format_calls B gd (Dk.mk0 n) D1 D2 D2.flush.1 0 w hd (by omega) (by simp [Dk.mk0]) (by rw [e1]) (by rw [e1]) (by rw [e2]) (by rw [e2]) rfl h1).mono fun e w' h => ?_
  exact ⟨_, h.1, h.2.1, h.2.2, h2, h3, h4, h5⟩
theorem format_on (B gd n : Nat) (w : World) (hn : 66 ≤ n) (hd : DAt B w gd (Dk.mk0 n)) :
    Calls Tryd.prog 10 #[.pointer (some ⟨gd, 0, none⟩)] w fun e w' => ∃ d, e = .returned (.int .i64 0) ∧ DAt B w' gd d ∧ Below B w w' ∧ Idle d ∧ d.left = 0 ∧ d.now.length = n ∧ C d.now cp0 0 [] :=
  (format_onS B gd n w hn hd).mono fun e w' ⟨d, h1, h2, h3, h4⟩ => ⟨d, h1, h2, h3.bel, h4⟩
/-- Append where the power does not go off and there is room -/
theorem append_on (B gl gd : Nat) (d : Dk) (l : Lg) (all : List Rec) (body : List UInt8) (c : Cp) (o : Bool) (w : World) (hl : LAt B w gl gd l) (hd : DAt B w gd d) (hi : I d l all) (hleft : d.left = 0) (hs : l.cp.serial < top) (hb : l.cp.boot ≤ top) (hq : l.cp.seq < top) (hbl : partsN body.length ≤ 16) (hc : cpFor d.now l.cp (partsN body.length) = some (c, o)) :
    Calls Tryd.prog 12 #[.pointer (some ⟨gl, 0, none⟩), .string (toB body)] w fun e w' => ∃ d' l', e = .returned (.tuple #[.agg #[.int .i64 c.seq, .int .i64 (lastSeg c).id, .string (toB body)], .int .i64 0]) ∧ DAt B w' gd d' ∧ LAt B w' gl gd l' ∧ FrL B w w' ∧ I d' l' (all ++ [⟨c.seq, (lastSeg c).id, body⟩]) ∧ d'.left = 0 ∧ d'.now.length = d.now.length ∧ l'.cp = setLast c ((lastSeg c).used + partsN body.length) (c.seq + 1) := by
  refine (append_at B gl gd d l all body w hl hd hi (by omega) hb (by omega) (by unfold partsN at hbl; omega)).mono fun e w' h => ?_
  obtain ⟨h1, h2, h3, h4⟩ := h
  rcases append_spec (body := body) hi hs hb hq with ⟨g1, _⟩ | ⟨_, g⟩
  · omega
  · rcases g with ⟨g1, _⟩ | ⟨c', o', g1, g2⟩
    · rw [hc] at g1; cases g1
    · rw [hc] at g1
      injection g1 with g1
      injection g1 with g3 g4
      subst g3 g4
      rcases g2 with ⟨k1, k2, k3, k4, k5⟩ | ⟨k1, k2, k3, _⟩
      · exact ⟨_, _, by rw [h1, k1]; rfl, h2, h3, h4, k3, by omega, k5, k2⟩
      · exact absurd hleft k3
/-- Append where there is no room -/
theorem append_full (B gl gd : Nat) (d : Dk) (l : Lg) (all : List Rec) (body : List UInt8) (w : World) (hl : LAt B w gl gd l) (hd : DAt B w gd d) (hi : I d l all) (hs : l.cp.serial < top) (hb : l.cp.boot ≤ top) (hq : l.cp.seq < top) (hbl : partsN body.length ≤ 16) (hc : cpFor d.now l.cp (partsN body.length) = none) :
    Calls Tryd.prog 12 #[.pointer (some ⟨gl, 0, none⟩), .string (toB body)] w fun e w' => e = .returned (.tuple #[.agg #[.int .i64 0, .int .i64 0, .string ⟨#[]⟩], .int .i64 21]) ∧ DAt B w' gd d ∧ LAt B w' gl gd l ∧ FrL B w w' := by
  refine (append_at B gl gd d l all body w hl hd hi (by omega) hb (by omega) (by unfold partsN at hbl; omega)).mono fun e w' h => ?_
  obtain ⟨h1, h2, h3, h4⟩ := h
  rcases append_spec (body := body) hi hs hb hq with ⟨g1, _⟩ | ⟨_, g⟩
  · omega
  · rcases g with ⟨_, g1⟩ | ⟨c', o', g1, g2⟩
    · rw [g1] at h1 h2 h3
      exact ⟨h1, h2, h3, h4⟩
    · rw [hc] at g1; cases g1
theorem boot_any (B gl gd : Nat) (l : Lg) (n : Int) (hn : (l.cp.boot : Int) = n) (w : World) (hl : LAt B w gl gd l) :
    Calls Tryd.prog 14 #[.pointer (some ⟨gl, 0, none⟩)] w fun e w' => e = .returned (.int .i64 n) ∧ w = w' := by
  subst hn
  obtain ⟨vS, hl⟩ := hl
  exact boot_calls B gl gd l vS w hl
def bA : ByteArray := ⟨#[97]⟩
def bB : ByteArray := ⟨#[98]⟩
theorem small_top (n : Nat) (h : n ≤ 1000000) : n < top := by unfold top; omega

theorem new66 (w : World) : Calls Tryd.prog 9 #[.int .i64 66] w fun e w' => ∃ g, e = .returned (.tuple #[.pointer (some ⟨g, 0, none⟩), .int .i64 0]) ∧ DAt w.heap.size w' g (Dk.mk0 66) ∧ Below w.heap.size w w' := new_calls 66 w (by omega) (by omega)
theorem appendA (B gl gd : Nat) (d : Dk) (l : Lg) (all : List Rec) (c : Cp) (o : Bool) (w : World) (hl : LAt B w gl gd l) (hd : DAt B w gd d) (hi : I d l all) (hleft : d.left = 0) (hs : l.cp.serial < top) (hb : l.cp.boot ≤ top) (hq : l.cp.seq < top) (hc : cpFor d.now l.cp 1 = some (c, o)) :
    Calls Tryd.prog 12 #[.pointer (some ⟨gl, 0, none⟩), .string ⟨#[97]⟩] w fun e w' => ∃ d' l' V, e = .returned (.tuple #[V, .int .i64 0]) ∧ DAt B w' gd d' ∧ LAt B w' gl gd l' ∧ FrL B w w' ∧ I d' l' (all ++ [⟨c.seq, (lastSeg c).id, [97]⟩]) ∧ d'.left = 0 ∧ d'.now.length = d.now.length ∧ l'.cp = setLast c ((lastSeg c).used + 1) (c.seq + 1) :=
  (append_on B gl gd d l all [97] c o w hl hd hi hleft hs hb hq (by decide) hc).mono fun e w' ⟨d', l', h⟩ => ⟨d', l', _, h⟩
theorem appendB (B gl gd : Nat) (d : Dk) (l : Lg) (all : List Rec) (c : Cp) (o : Bool) (w : World) (hl : LAt B w gl gd l) (hd : DAt B w gd d) (hi : I d l all) (hleft : d.left = 0) (hs : l.cp.serial < top) (hb : l.cp.boot ≤ top) (hq : l.cp.seq < top) (hc : cpFor d.now l.cp 1 = some (c, o)) :
    Calls Tryd.prog 12 #[.pointer (some ⟨gl, 0, none⟩), .string ⟨#[98]⟩] w fun e w' => ∃ d' l' V, e = .returned (.tuple #[V, .int .i64 0]) ∧ DAt B w' gd d' ∧ LAt B w' gl gd l' ∧ FrL B w w' ∧ I d' l' (all ++ [⟨c.seq, (lastSeg c).id, [98]⟩]) ∧ d'.left = 0 ∧ d'.now.length = d.now.length ∧ l'.cp = setLast c ((lastSeg c).used + 1) (c.seq + 1) :=
  (append_on B gl gd d l all [98] c o w hl hd hi hleft hs hb hq (by decide) hc).mono fun e w' ⟨d', l', h⟩ => ⟨d', l', _, h⟩

set_option maxRecDepth 100000 in
theorem speaks_calls (w : World) : Calls Tryd.prog 8 #[] w fun e w' => e = .returned (.bool true) ∧ Below w.heap.size w w' := by
  have HT := Aside0.mk small_top
  have HC0 : Aside0 (cp0.serial < top ∧ cp0.boot < top ∧ cp0.seq < top ∧ ([] : List Rec).length ≤ 100000) := ⟨small_top 1 (by omega), small_top 0 (by omega), small_top 0 (by omega), by simp⟩
  go_enter Tryd.func8, Tryd.ntmps8
  go_wp2_with (first
    | (go_at_call 9; (with_reducible refine (new66 w).mono ?_); rintro e1 w1 ⟨g, rfl, hd, hb⟩; have HD1 := Aside0.mk hd; have HB1 := Aside0.mk hb; clear hd hb)
    | (go_at_call 10; (with_reducible refine (format_on w.heap.size g 66 w1 (by omega) HD1.out).mono ?_); rintro e2 w2 ⟨d2, rfl, hd, hb, h1, h2, h3, h4⟩; have HD2 := Aside0.mk hd; have HB2 := Aside0.mk (HB1.out.trans hb); have HP2 := Aside0.mk (And.intro h1 (And.intro h2 (And.intro h3 h4))); clear hd hb h1 h2 h3 h4)
    | (go_at_call 11; (with_reducible refine (open_on w.heap.size g d2 cp0 0 [] w2 HD2.out HP2.out.1 HP2.out.2.1 HP2.out.2.2.2 HC0.out.1 HC0.out.2.1 HC0.out.2.2.1 HC0.out.2.2.2).mono ?_); rintro e3 w3 ⟨d3, gl, v3, rfl, hd, hl, hr, hf, hi, hl0, hln⟩; have HD3 := Aside0.mk hd; have HL3 := Aside0.mk hl; have HB3 := Aside0.mk (HB2.out.trans hf.bel); have HI3 := Aside0.mk hi; have HQ3 := Aside0.mk (And.intro hl0 hln); obtain ⟨l3, hl3⟩ : ∃ l3 : Lg, l3 = ⟨booted cp0, 1 - 0⟩ := ⟨_, rfl⟩; rw [← hl3] at hl hi; have HL3 := Aside0.mk hl; have HI3 := Aside0.mk hi; have HCF : Aside0 (l3.cp.serial < top ∧ l3.cp.boot ≤ top ∧ l3.cp.seq < top ∧ cpFor d3.now l3.cp 1 = some (⟨2, 1, 0, [⟨0, 0⟩]⟩, false)) := ⟨by subst hl3; exact ⟨HT.out 2 (by omega), Nat.le_of_lt (HT.out 1 (by omega)), HT.out 0 (by omega), rfl⟩⟩; obtain ⟨A3, c3, rfl, -⟩ := own_slice hr; clear hd hl hr hf hi hl0 hln hl3)
    | (go_at_call 12; (with_reducible refine (appendA w.heap.size gl g d3 l3 [] ⟨2, 1, 0, [⟨0, 0⟩]⟩ false w3 HL3.out HD3.out HI3.out HQ3.out.1 HCF.out.1 HCF.out.2.1 HCF.out.2.2.1 HCF.out.2.2.2).mono ?_); rintro e4 w4 ⟨d4, l4, V4, rfl, hd, hl, hf, hi, hl0, hln, hcp⟩; have HD4 := Aside0.mk hd; have HL4 := Aside0.mk hl; have HB4 := Aside0.mk (HB3.out.trans hf.bel); have HI4 := Aside0.mk hi; have HQ4 : Aside0 (d4.left = 0 ∧ l4.cp = ⟨2, 1, 1, [⟨0, 1⟩]⟩) := ⟨hl0, hcp⟩; have HC4 : Aside0 (l4.cp.serial < top ∧ l4.cp.boot ≤ top ∧ l4.cp.seq < top ∧ cpFor d4.now l4.cp 1 = some (⟨2, 1, 1, [⟨0, 1⟩]⟩, false)) := ⟨by rw [HQ4.out.2]; exact ⟨HT.out 2 (by omega), Nat.le_of_lt (HT.out 1 (by omega)), HT.out 1 (by omega), rfl⟩⟩; clear hd hl hf hi hl0 hln hcp)
    | (go_at_call 12; (with_reducible refine (appendB w.heap.size gl g d4 l4 _ ⟨2, 1, 1, [⟨0, 1⟩]⟩ false w4 HL4.out HD4.out HI4.out HQ4.out.1 HC4.out.1 HC4.out.2.1 HC4.out.2.2.1 HC4.out.2.2.2).mono ?_); rintro e5 w5 ⟨d5, l5, V5, rfl, hd, hl, hf, hi, hl0, hln, hcp⟩; have HD5 := Aside0.mk hd; have HL5 := Aside0.mk hl; have HB5 := Aside0.mk (HB4.out.trans hf.bel); have HI5 : Aside0 (I d5 l5 [⟨0, 0, [97]⟩, ⟨1, 0, [98]⟩]) := ⟨hi⟩; have HQU : Aside0 (d5.queue.length ≤ 1000000) := ⟨by rw [hi.idle.queue]; simp⟩; have HQ5 : Aside0 (d5.left = 0 ∧ l5.cp = ⟨2, 1, 2, [⟨0, 2⟩]⟩) := ⟨hl0, hcp⟩; clear hd hl hf hi hl0 hln hcp)
    | (go_at_call 13; (with_reducible refine (crash_calls w.heap.size g d5 0 w5 HD5.out HQU.out).mono ?_); rintro e6 w6 ⟨rfl, hd, hf⟩; have HD6 := Aside0.mk hd; have HB6 := Aside0.mk (HB5.out.trans hf.bel); have HC6 : Aside0 (Idle (d5.crash 0) ∧ (d5.crash 0).left = 0 ∧ C (d5.crash 0).now l5.cp l5.place [⟨0, 0, [97]⟩, ⟨1, 0, [98]⟩] ∧ l5.cp.serial < top ∧ l5.cp.boot < top ∧ l5.cp.seq < top ∧ ([⟨0, 0, [97]⟩, ⟨1, 0, [98]⟩] : List Rec).length ≤ 100000) := ⟨by obtain ⟨i1, i2, i3⟩ := HI5.out.idle.crash 0; rw [HQ5.out.2]; exact ⟨i1, i3, by rw [i2, ← HQ5.out.2]; exact HI5.out.c, HT.out 2 (by omega), HT.out 1 (by omega), HT.out 2 (by omega), by simp⟩⟩; clear hd hf)
    | (go_at_call 11; (with_reducible refine (open_on w.heap.size g (d5.crash 0) l5.cp l5.place [⟨0, 0, [97]⟩, ⟨1, 0, [98]⟩] w6 HD6.out HC6.out.1 HC6.out.2.1 HC6.out.2.2.1 HC6.out.2.2.2.1 HC6.out.2.2.2.2.1 HC6.out.2.2.2.2.2.1 HC6.out.2.2.2.2.2.2).mono ?_); rintro e7 w7 ⟨d7, gl7, v7, rfl, hd, hl, hr, hf, hi, hl0, hln⟩; have HL7 := Aside0.mk hl; have HB7 := Aside0.mk (HB6.out.trans hf.bel); have HBT : Aside0 (((booted l5.cp).boot : Int) = 2) := ⟨by rw [HQ5.out.2]; rfl⟩; obtain ⟨k7, c7, rfl, -, -, -, z⟩ := hr.at 1 _ rfl; have z5 : w7.cell? ⟨k7, 5, none⟩ = some (.string ⟨#[98]⟩) := z; clear z hd hl hr hf hi hl0 hln)
    | (go_at_call 14; (with_reducible refine (boot_any w.heap.size gl7 g _ 2 HBT.out w7 HL7.out).mono ?_); rintro e8 w8 ⟨rfl, rfl⟩))
  go_ret
  exact ⟨rfl, HB7.out⟩
set_option maxRecDepth 100000 in
theorem nil_calls (n : Int) (w : World) : Calls Tryd.prog 6 #[.int .i64 n] w fun e w' => e = .returned (.bool true) ∧ Below w.heap.size w w' := by
  go_enter Tryd.func6, Tryd.ntmps6
  go_wp2_with (first
    | (go_at_call 8; (with_reducible refine (speaks_calls w).mono ?_); rintro e0 w0 ⟨rfl, hb⟩; have HB0 := Aside0.mk hb; clear hb)
    | (go_at_call 12; (with_reducible refine (append_nil _ _).mono ?_); rintro e1 w1 ⟨rfl, hb⟩; have HB1 := Aside0.mk (below_step HB0.out hb); clear hb)
    | ((with_reducible refine gate_dst (N := 4) rfl ?_); refine Lb.alloc_event ?hg (v := fun g => .pointer (some ⟨g, 0, none⟩)) (cs := #[.int .i64 0, .int .i64 0, .string ⟨#[]⟩]) (t := 34) (fr := (0, 0)) ?hr ?_; (case hg => rfl); (case hr => first | (go_simp; done) | (go_simp; rfl)); intro g4 hg4 w2 hx hb; have HX2 := Aside0.mk hx; have HB2 := Aside0.mk hb; have HG2 := Aside0.mk hg4; clear hx hb hg4)
    | ((with_reducible refine gate_store (t := 34) (p := 4) rfl ?_); refine Lb.store_whole rfl rfl 34 (.tmp 4) (.tmp 11) rfl (new := #[.int .i64 0, .int .i64 0, .string ⟨#[]⟩]) rfl rfl HX2.out rfl (by kernel_rfl) (by simp [Value.oneCell']) ?_; intro w3 hb hg; have HX3 := Aside0.mk hb; have HB3 := Aside0.mk (below_step HB1.out (Lb.grown_below HB2.out hg HB2.out.size (by have := HG2.out; omega))); have v0 := (blk_cell hb 0).trans rfl; have v1 := (blk_cell hb 1).trans rfl; have v2 := (blk_cell hb 2).trans rfl; clear hb hg)
    | (go_at_call 17; (with_reducible refine (drop_nil n _).mono ?_); rintro e4 w4 ⟨rfl, hb⟩; have HB4 := Aside0.mk (below_step HB3.out hb); clear hb)
    | (go_at_call 27; (with_reducible refine (fits_nil n _).mono ?_); rintro e5 w5 ⟨rfl, hb⟩; have HB5 := Aside0.mk (below_step HB4.out hb); clear hb)
    | (go_at_call 28; (with_reducible refine (segments_nil _).mono ?_); rintro e6 w6 ⟨rfl, rfl⟩)
    | (go_at_call 29; (with_reducible refine (free_nil _).mono ?_); rintro e7 w7 ⟨rfl, rfl⟩)
    | (go_at_call 14; (with_reducible refine (boot_nil _).mono ?_); rintro e8 w8 ⟨rfl, rfl⟩))
  go_ret
  exact ⟨rfl, HB5.out⟩
end Go.Proofs.YtfiocakhgpdlfaaDoor.Sg
