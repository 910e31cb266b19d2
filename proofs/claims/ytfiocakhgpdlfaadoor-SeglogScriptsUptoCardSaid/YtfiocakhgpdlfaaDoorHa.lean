/- A disk of sectors and a log of records in segments, as plain data: what each function of sector and seglog computes. No program in sight. Bytes of checkpoints and parts: what is laid out is read back. A disk on which a log lies: what opening it finds. A log that is closed, or open: what saving, opening, appending and dropping come to, whether or not the power goes off. What opening, dropping and appending come to. What appending comes to. A disk that is new, and formatted; power off and on. -/
import Derived.WalkKit
namespace Go.Proofs.YtfiocakhgpdlfaaDoor.Sg
open Go

/-- a write that stands in the queue -/
structure Wr where
  n : Nat
  data : ByteArray
/-- a disk -/
structure Dk where
  last : List ByteArray
  now : List ByteArray
  queue : List Wr
  left : Nat
  keep : Int
  off : Bool
/-- does a mask keep the i-th write? -/
def kb (keep : Int) (i : Nat) : Bool := bits .and .u64 (IntKind.u64.wrap keep / 2 ^ (i % 60)) 1 == 1
def loseL (keep : Int) : List Wr → Nat → List ByteArray → List ByteArray
  | [], _, l => l
  | x :: q, i, l => loseL keep q (i + 1) (if kb keep i then l.set x.n x.data else l)
def Dk.lose (d : Dk) (keep : Int) : Dk := { d with last := loseL keep d.queue 0 d.last, now := loseL keep d.queue 0 d.last, queue := [] }
def Dk.torn (d : Dk) : Bool := d.left == 1
def Dk.tick (d : Dk) : Dk := { d with left := d.left - 1 }
/-- the power goes off -/
def Dk.gone (d : Dk) : Dk := { d.tick.lose d.keep with off := true }
def Dk.put (d : Dk) (n : Nat) (s : ByteArray) : Dk := { d with queue := d.queue ++ [⟨n, s⟩], now := d.now.set n s }
def Dk.write (d : Dk) (n : Nat) (s : ByteArray) : Dk × Int :=
  if d.off then (d, 20) else if d.torn then ((d.put n s).gone, 20) else ((d.put n s).tick, 0)
def Dk.flush (d : Dk) : Dk × Int :=
  if d.off then (d, 20) else if d.torn then (d.gone, 20) else ({ d.tick with last := d.now, queue := [] }, 0)
def Dk.crash (d : Dk) (keep : Int) : Dk := { d.lose keep with off := false, left := 0 }
def Dk.on (d : Dk) : Dk := { d with off := false, left := 0 }
def Dk.cut (d : Dk) (n keep : Int) : Dk := { d with left := (max n 1).toNat, keep := keep }
def Dk.mk0 (n : Nat) : Dk := ⟨List.replicate n ⟨#[]⟩, List.replicate n ⟨#[]⟩, [], 0, 0, false⟩
/-- a sector's bytes -/
def full (s : ByteArray) : List UInt8 := s.data.toList ++ List.replicate (256 - s.size) 0
def secOf (S : List ByteArray) (n : Nat) : List UInt8 := full (S.getD n ⟨#[]⟩)

/-- bytes as a number -/
def beN (l : List UInt8) : Nat := l.foldl (fun n b => n * 256 + b.toNat) 0
/-- a number in bytes -/
def num (n : Nat) : Nat → List UInt8
  | 0 => []
  | k + 1 => UInt8.ofNat (n / 256 ^ k) :: num n k

structure Seg where
  id : Nat
  used : Nat
  deriving DecidableEq
structure Cp where
  serial : Nat
  boot : Nat
  seq : Nat
  segs : List Seg
  deriving DecidableEq
structure Rec where
  seq : Nat
  seg : Nat
  body : List UInt8
  deriving DecidableEq
structure Part where
  boot : Nat
  seq : Nat
  n : Nat
  of : Nat
  body : List UInt8
/-- 2^60 -/
def top : Nat := 1152921504606846976

def segBytes : List Seg → List UInt8
  | [] => []
  | s :: r => num s.id 1 ++ num s.used 1 ++ segBytes r
def Cp.bytes (c : Cp) : List UInt8 := 67 :: (num c.serial 8 ++ num c.boot 8 ++ num c.seq 8 ++ num c.segs.length 1 ++ segBytes c.segs)

def sub (l : List UInt8) (a n : Nat) : List UInt8 := (l.drop a).take n
/-- the segments of a checkpoint: the first n of its pairs -/
def segsOf (S : Nat) : Nat → List UInt8 → List Seg → Option (List Seg)
  | 0, _, acc => some acc
  | n + 1, a :: b :: r, acc => if S ≤ a.toNat ∨ 16 < b.toNat ∨ acc.any (fun y => y.id == a.toNat) then none else segsOf S n r (acc ++ [⟨a.toNat, b.toNat⟩])
  | _ + 1, _, _ => none
def cpOf (l : List UInt8) (S : Nat) : Option Cp :=
  if l.head? ≠ some 67 ∨ top < beN (sub l 1 8) ∨ top < beN (sub l 9 8) ∨ top < beN (sub l 17 8) ∨ beN (sub l 25 1) < 1 ∨ S < beN (sub l 25 1) then none else
  match segsOf S (beN (sub l 25 1)) (l.drop 26) [] with
  | none => none
  | some segs => if (l.drop (26 + 2 * beN (sub l 25 1))).all (· == 0) then some ⟨beN (sub l 1 8), beN (sub l 9 8), beN (sub l 17 8), segs⟩ else none

def partOf (l : List UInt8) : Option Part :=
  if l.head? ≠ some 82 ∨ top < beN (sub l 1 8) ∨ top < beN (sub l 9 8) ∨ beN (sub l 19 2) < 1 ∨ 16 < beN (sub l 19 2) ∨ beN (sub l 19 2) ≤ beN (sub l 17 2) ∨ 233 < beN (sub l 21 2) then none else
  some ⟨beN (sub l 1 8), beN (sub l 9 8), beN (sub l 17 2), beN (sub l 19 2), sub l 23 (beN (sub l 21 2))⟩
/-- a part's bytes -/
def Part.bytes (p : Part) : List UInt8 := 82 :: (num p.boot 8 ++ num p.seq 8 ++ num p.n 2 ++ num p.of 2 ++ num p.body.length 2 ++ p.body)

/-- the parts behind the first one -/
def recGo (sec : Nat → List UInt8) (p0 : Part) (e : Nat) : Nat → Nat → Nat → List UInt8 → Option (List UInt8)
  | 0, _, _, b => some b
  | f + 1, k, x, b => if e ≤ x then none else
    match partOf (sec x) with
    | none => none
    | some p => if p.n = k ∧ p.boot = p0.boot ∧ p.seq = p0.seq ∧ p.of = p0.of then recGo sec p0 e f (k + 1) (x + 1) (b ++ p.body) else none
/-- the record at a sector of a segment, ahead of an end: its first part and its body -/
def recOf (sec : Nat → List UInt8) (a e : Nat) : Option (Part × List UInt8) :=
  if e ≤ a then none else
  match partOf (sec a) with
  | none => none
  | some p0 => if p0.n = 0 then (recGo sec p0 e (p0.of - 1) 1 (a + 1) p0.body).map (fun b => (p0, b)) else none
def segOf (S : List ByteArray) (id : Nat) (k : Nat) : List UInt8 := secOf S (2 + id * 16 + k)

/-- the records of a segment that a checkpoint tells -/
def knownSeg (sec : Nat → List UInt8) (seq id used : Nat) : Nat → Nat → List Rec → Option (List Rec)
  | 0, _, out => some out
  | f + 1, a, out => if used ≤ a then some out else
    match recOf sec a used with
    | none => none
    | some (p, b) => if seq ≤ p.seq ∨ (out.getLast?.any fun r => p.seq ≤ r.seq) then none else knownSeg sec seq id used f (a + p.of) (out ++ [⟨p.seq, id, b⟩])
def known (S : List ByteArray) (seq : Nat) : List Seg → List Rec → Option (List Rec)
  | [], out => some out
  | s :: r, out => match knownSeg (segOf S s.id) seq s.id s.used 17 0 out with
    | none => none
    | some o => known S seq r o
/-- the records behind the checkpoint: used, seq, records -/
def further (sec : Nat → List UInt8) (boot id : Nat) : Nat → Nat → Nat → List Rec → Nat × Nat × List Rec
  | 0, used, seq, out => (used, seq, out)
  | f + 1, used, seq, out => if top ≤ seq then (used, seq, out) else
    match recOf sec used 16 with
    | none => (used, seq, out)
    | some (p, b) => if p.boot = boot ∧ p.seq = seq then further sec boot id f (used + p.of) (seq + 1) (out ++ [⟨p.seq, id, b⟩]) else (used, seq, out)

/-- a log: its checkpoint (whose last segment grows), and the place of the newest that was saved -/
structure Lg where
  cp : Cp
  place : Nat
def lastSeg (c : Cp) : Seg := c.segs.getLastD ⟨0, 0⟩
def setLast (c : Cp) (used seq : Nat) : Cp := { c with seq := seq, segs := c.segs.dropLast ++ [⟨(lastSeg c).id, used⟩] }
def fitsC (c : Cp) : Bool := c.serial ≤ top && c.boot ≤ top && c.seq ≤ top
def toB (l : List UInt8) : ByteArray := ⟨l.toArray⟩
/-- writes a checkpoint into the other sector -/
def save (d : Dk) (l : Lg) (c : Cp) : Dk × Lg × Int :=
  if fitsC c = false then (d, l, 21) else
  let a := d.write (1 - l.place) (toB c.bytes)
  if a.2 ≠ 0 then (a.1, l, a.2) else
  let b := a.1.flush
  if b.2 ≠ 0 then (b.1, l, b.2) else (b.1, ⟨c, 1 - l.place⟩, 0)
def nextC (l : Lg) (segs : List Seg) : Cp := ⟨l.cp.serial + 1, l.cp.boot, l.cp.seq, segs⟩
def segsN (S : List ByteArray) : Nat := min ((S.length - 2) / 16) 64

/-- the checkpoint that counts, and its place -/
def pick (S : List ByteArray) : Option (Cp × Nat) :=
  match cpOf (secOf S 0) (segsN S), cpOf (secOf S 1) (segsN S) with
  | none, none => none
  | some a, none => some (a, 0)
  | none, some b => some (b, 1)
  | some a, some b => if a.serial < b.serial then some (b, 1) else some (a, 0)
inductive Opened where
  | bad (d : Dk) (e : Int)
  | ok (d : Dk) (l : Lg) (out : List Rec)
def openL (d : Dk) : Opened :=
  if d.off then .bad d 20 else
  match pick d.now with
  | none => .bad d 4
  | some (c, place) =>
    match known d.now c.seq c.segs [] with
    | none => .bad d 4
    | some out =>
      let f := further (segOf d.now (lastSeg c).id) c.boot (lastSeg c).id 17 (lastSeg c).used c.seq out
      let l : Lg := ⟨setLast c f.1 f.2.1, place⟩
      if top ≤ l.cp.seq then .bad d 21 else
      let s := save d l { nextC l l.cp.segs with boot := l.cp.boot + 1 }
      if s.2.2 ≠ 0 then .bad s.1 s.2.2 else .ok s.1 s.2.1 f.2.2

def partsN (n : Nat) : Nat := max ((n + 232) / 233) 1
def fits (l : Lg) (n : Nat) : Bool := n ≤ 3728 && (lastSeg l.cp).used + partsN n ≤ 16
/-- the least segment that is free -/
def freeId (S : Nat) (segs : List Seg) : Option Nat := (List.range S).find? (fun i => !segs.any (fun s => s.id == i))
/-- makes the free segment with the least number the last one -/
def openSeg (d : Dk) (l : Lg) : Dk × Lg × Int :=
  match freeId (segsN d.now) l.cp.segs with
  | none => (d, l, 21)
  | some i => save d l (nextC l (l.cp.segs ++ [⟨i, 0⟩]))
/-- lays the parts of a body from one on -/
def putParts (c : Cp) (of : Nat) : Nat → Nat → List UInt8 → Dk → Dk × Int
  | 0, _, _, d => (d, 0)
  | f + 1, k, rest, d =>
    let a := d.write (2 + (lastSeg c).id * 16 + (lastSeg c).used + k) (toB (Part.bytes ⟨c.boot, c.seq, k, of, rest.take 233⟩))
    if a.2 ≠ 0 then (a.1, a.2) else putParts c of f (k + 1) (rest.drop 233) a.1
inductive Res where
  | bad (e : Int)
  | ok (r : Rec)
def append2 (d : Dk) (l : Lg) (body : List UInt8) : Dk × Lg × Res :=
  let a := putParts l.cp (partsN body.length) (partsN body.length) 0 body d
  if a.2 ≠ 0 then (a.1, l, .bad a.2) else
  let b := a.1.flush
  if b.2 ≠ 0 then (b.1, l, .bad b.2) else
  (b.1, ⟨setLast l.cp ((lastSeg l.cp).used + partsN body.length) (l.cp.seq + 1), l.place⟩, .ok ⟨l.cp.seq, (lastSeg l.cp).id, body⟩)
def append (d : Dk) (l : Lg) (body : List UInt8) : Dk × Lg × Res :=
  if 16 < partsN body.length then (d, l, .bad 2) else
  if top ≤ l.cp.seq then (d, l, .bad 21) else
  if fits l body.length then append2 d l body else
  let a := openSeg d l
  if a.2.2 ≠ 0 then (a.1, a.2.1, .bad a.2.2) else append2 a.1 a.2.1 body
def drop (d : Dk) (l : Lg) (id : Int) : Dk × Lg × Int :=
  match l.cp.segs.findIdx? (fun s => (s.id : Int) == id) with
  | none => (d, l, 1)
  | some i => if i + 1 = l.cp.segs.length then (d, l, 1) else save d l (nextC l (l.cp.segs.eraseIdx i))
def cp0 : Cp := ⟨1, 0, 0, [⟨0, 0⟩]⟩
def format (d : Dk) : Dk × Int :=
  let a := d.write 1 ⟨#[]⟩
  if a.2 ≠ 0 then a else
  let b := a.1.write 0 (toB cp0.bytes)
  if b.2 ≠ 0 then b else b.1.flush
end Go.Proofs.YtfiocakhgpdlfaaDoor.Sg

namespace Go.Proofs.YtfiocakhgpdlfaaDoor.Sg

theorem foldl_be (l : List UInt8) : ∀ a : Nat, l.foldl (fun n b => n * 256 + b.toNat) a = a * 256 ^ l.length + beN l := by
  induction l with
  | nil => intro a; simp [beN]
  | cons x r ih =>
    intro a
    simp only [List.foldl_cons, List.length_cons, beN]
    rw [ih, ih (0 * 256 + x.toNat), Nat.pow_succ, Nat.add_mul, Nat.add_mul, Nat.mul_assoc, Nat.mul_comm 256]
    omega
theorem beN_cons (x : UInt8) (l : List UInt8) : beN (x :: l) = x.toNat * 256 ^ l.length + beN l := by
  have := foldl_be l (0 * 256 + x.toNat)
  simp only [beN, List.foldl_cons] at this ⊢
  rw [this]; simp
theorem num_length (n : Nat) : ∀ k, (num n k).length = k
  | 0 => rfl
  | k + 1 => by rw [num, List.length_cons, num_length n k]
theorem beN_num (n : Nat) : ∀ k, beN (num n k) = n % 256 ^ k
  | 0 => by rw [num]; simp [beN, Nat.mod_one]
  | k + 1 => by
    rw [num, beN_cons, num_length, beN_num n k, Nat.pow_succ, Nat.mod_mul]
    have : (UInt8.ofNat (n / 256 ^ k)).toNat = n / 256 ^ k % 256 := by simp [UInt8.toNat_ofNat']
    rw [this, Nat.mul_comm]; omega
theorem beN_lt (l : List UInt8) : beN l < 256 ^ l.length := by
  induction l with
  | nil => simp [beN]
  | cons x r ih =>
    rw [beN_cons, List.length_cons, Nat.pow_succ]
    have hx : x.toNat < 256 := x.toNat_lt
    have : x.toNat * 256 ^ r.length ≤ 255 * 256 ^ r.length := Nat.mul_le_mul_right _ (by omega)
    omega
theorem beN_num_lt (n k : Nat) (h : n < 256 ^ k) : beN (num n k) = n := by rw [beN_num, Nat.mod_eq_of_lt h]

theorem sub_mid (l P A R : List UInt8) (a n : Nat) (h : l = P ++ (A ++ R)) (ha : P.length = a) (hn : A.length = n) : sub l a n = A := by
  subst h; subst ha; subst hn
  unfold sub
  rw [List.drop_append_of_le_length (Nat.le_refl _), List.drop_length, List.nil_append, List.take_append_of_le_length (Nat.le_refl _), List.take_length]

theorem full_toB (l : List UInt8) : full (toB l) = l ++ List.replicate (256 - l.length) 0 := by
  unfold full toB
  have h1 : (ByteArray.mk l.toArray).data.toList = l := by simp
  have h2 : (ByteArray.mk l.toArray).size = l.length := by show l.toArray.size = _; simp
  rw [h1, h2]
theorem full_length (s : ByteArray) (h : s.size ≤ 256) : (full s).length = 256 := by
  unfold full
  rw [List.length_append, List.length_replicate]
  have : s.data.toList.length = s.size := by show s.data.toList.length = s.data.size; simp
  omega

/-- a part that can be laid out -/
structure Part.Ok (p : Part) : Prop where
  boot : p.boot ≤ top
  seq : p.seq ≤ top
  of0 : 1 ≤ p.of
  of16 : p.of ≤ 16
  n : p.n < p.of
  body : p.body.length ≤ 233
theorem Part.bytes_length (p : Part) : p.bytes.length = 23 + p.body.length := by
  simp [Part.bytes, num_length]; omega
theorem partOf_bytes (p : Part) (h : p.Ok) : partOf (full (toB p.bytes)) = some p := by
  obtain ⟨hb, hs, h0, h16, hn, hl⟩ := h
  rw [full_toB]
  have L := num_length
  have e1 : sub (p.bytes ++ List.replicate (256 - p.bytes.length) 0) 1 8 = num p.boot 8 := by
    refine sub_mid _ [82] _ (num p.seq 8 ++ num p.n 2 ++ num p.of 2 ++ num p.body.length 2 ++ p.body ++ List.replicate (256 - p.bytes.length) 0) 1 8 ?_ rfl (L _ _)
    simp [Part.bytes, List.append_assoc]
  have e2 : sub (p.bytes ++ List.replicate (256 - p.bytes.length) 0) 9 8 = num p.seq 8 := by
    refine sub_mid _ (82 :: num p.boot 8) _ (num p.n 2 ++ num p.of 2 ++ num p.body.length 2 ++ p.body ++ List.replicate (256 - p.bytes.length) 0) 9 8 ?_ (by simp [L]) (L _ _)
    simp [Part.bytes, List.append_assoc]
  have e3 : sub (p.bytes ++ List.replicate (256 - p.bytes.length) 0) 17 2 = num p.n 2 := by
    refine sub_mid _ (82 :: (num p.boot 8 ++ num p.seq 8)) _ (num p.of 2 ++ num p.body.length 2 ++ p.body ++ List.replicate (256 - p.bytes.length) 0) 17 2 ?_ (by simp [L]) (L _ _)
    simp [Part.bytes, List.append_assoc]
  have e4 : sub (p.bytes ++ List.replicate (256 - p.bytes.length) 0) 19 2 = num p.of 2 := by
    refine sub_mid _ (82 :: (num p.boot 8 ++ num p.seq 8 ++ num p.n 2)) _ (num p.body.length 2 ++ p.body ++ List.replicate (256 - p.bytes.length) 0) 19 2 ?_ (by simp [L]) (L _ _)
    simp [Part.bytes, List.append_assoc]
  have e5 : sub (p.bytes ++ List.replicate (256 - p.bytes.length) 0) 21 2 = num p.body.length 2 := by
    refine sub_mid _ (82 :: (num p.boot 8 ++ num p.seq 8 ++ num p.n 2 ++ num p.of 2)) _ (p.body ++ List.replicate (256 - p.bytes.length) 0) 21 2 ?_ (by simp [L]) (L _ _)
    simp [Part.bytes, List.append_assoc]
  have e6 : sub (p.bytes ++ List.replicate (256 - p.bytes.length) 0) 23 p.body.length = p.body := by
    refine sub_mid _ (82 :: (num p.boot 8 ++ num p.seq 8 ++ num p.n 2 ++ num p.of 2 ++ num p.body.length 2)) _ (List.replicate (256 - p.bytes.length) 0) 23 _ ?_ (by simp [L]) rfl
    simp [Part.bytes, List.append_assoc]
  have b1 : beN (num p.boot 8) = p.boot := beN_num_lt _ _ (by unfold top at hb; omega)
  have b2 : beN (num p.seq 8) = p.seq := beN_num_lt _ _ (by unfold top at hs; omega)
  have b3 : beN (num p.n 2) = p.n := beN_num_lt _ _ (by omega)
  have b4 : beN (num p.of 2) = p.of := beN_num_lt _ _ (by omega)
  have b5 : beN (num p.body.length 2) = p.body.length := beN_num_lt _ _ (by omega)
  have eh : (p.bytes ++ List.replicate (256 - p.bytes.length) 0).head? = some 82 := by simp [Part.bytes]
  unfold partOf
  rw [e1, e2, e3, e4, e5, b1, b2, b3, b4, b5, e6, eh, if_neg (by simp; omega)]

theorem segBytes_length : ∀ l : List Seg, (segBytes l).length = 2 * l.length
  | [] => rfl
  | s :: r => by simp [segBytes, num_length, segBytes_length r]; omega
theorem Cp.bytes_length (c : Cp) : c.bytes.length = 26 + 2 * c.segs.length := by
  simp [Cp.bytes, num_length, segBytes_length]; omega

/-- segments that a checkpoint may tell -/
structure SegsOk (S : Nat) (l : List Seg) : Prop where
  nodup : (l.map (·.id)).Nodup
  id : ∀ s ∈ l, s.id < S
  used : ∀ s ∈ l, s.used ≤ 16
theorem segsOf_bytes (S : Nat) (hS : S ≤ 64) : ∀ (l acc : List Seg) (R : List UInt8), SegsOk S (acc ++ l) → segsOf S l.length (segBytes l ++ R) acc = some (acc ++ l)
  | [], acc, R, _ => by simp [segsOf]
  | s :: r, acc, R, h => by
    have hi := h.id s (by simp)
    have hu := h.used s (by simp)
    have e : segBytes (s :: r) ++ R = UInt8.ofNat s.id :: UInt8.ofNat s.used :: (segBytes r ++ R) := by simp [segBytes, num]
    have t1 : (UInt8.ofNat s.id).toNat = s.id := by rw [UInt8.toNat_ofNat']; omega
    have t2 : (UInt8.ofNat s.used).toNat = s.used := by rw [UInt8.toNat_ofNat']; omega
    have hnot : acc.any (fun y => y.id == s.id) = false := by
      rw [List.any_eq_false]
      intro y hy he
      have hd := h.nodup
      rw [List.map_append, List.nodup_append] at hd
      exact hd.2.2 _ (List.mem_map_of_mem hy) _ (List.mem_map_of_mem (by simp : s ∈ s :: r)) (by simpa using he)
    rw [e, List.length_cons, segsOf, t1, t2, if_neg (by rw [hnot]; simp; omega)]
    have := segsOf_bytes S hS r (acc ++ [s]) R (by simpa using h)
    simpa using this

/-- a checkpoint that can be laid out -/
structure Cp.Ok (c : Cp) (S : Nat) : Prop where
  serial : c.serial ≤ top
  boot : c.boot ≤ top
  seq : c.seq ≤ top
  ne : c.segs ≠ []
  segs : SegsOk S c.segs
theorem nodup_le : ∀ (n : Nat) (l : List Nat), l.Nodup → (∀ x ∈ l, x < n) → l.length ≤ n
  | 0, [], _, _ => Nat.le_refl _
  | 0, x :: r, _, h => absurd (h x (by simp)) (by omega)
  | n + 1, l, hd, h => by
    have h1 : (l.erase n).length ≤ n := nodup_le n _ (hd.erase n) (fun x hx => by
      have h2 := h x (List.mem_of_mem_erase hx)
      have h3 : x ≠ n := fun e => by subst e; exact hd.not_mem_erase hx
      omega)
    have := List.length_erase_le (a := n) (l := l)
    by_cases hm : n ∈ l
    · rw [List.length_erase_of_mem hm] at h1; omega
    · rw [List.erase_of_not_mem hm] at h1; omega
theorem SegsOk.len {S : Nat} {l : List Seg} (h : SegsOk S l) : l.length ≤ S := by
  have := nodup_le S (l.map (·.id)) h.nodup (fun x hx => by
    obtain ⟨s, hs, rfl⟩ := List.mem_map.1 hx
    exact h.id s hs)
  simpa using this

theorem cpOf_bytes (c : Cp) (S : Nat) (hS : S ≤ 64) (h : c.Ok S) : cpOf (full (toB c.bytes)) S = some c := by
  obtain ⟨h1, h2, h3, h4, h5⟩ := h
  have hlen := h5.len
  have L := num_length
  have h0 : 1 ≤ c.segs.length := by
    cases hc : c.segs with
    | nil => exact absurd hc h4
    | cons _ _ => simp
  rw [full_toB]
  have eb : c.bytes = 67 :: (num c.serial 8 ++ num c.boot 8 ++ num c.seq 8 ++ num c.segs.length 1 ++ segBytes c.segs) := rfl
  generalize hZ : List.replicate (256 - c.bytes.length) (0 : UInt8) = Z
  have e1 : sub (c.bytes ++ Z) 1 8 = num c.serial 8 := by
    refine sub_mid _ [67] _ (num c.boot 8 ++ num c.seq 8 ++ num c.segs.length 1 ++ segBytes c.segs ++ Z) 1 8 ?_ rfl (L _ _)
    simp [eb, List.append_assoc]
  have e2 : sub (c.bytes ++ Z) 9 8 = num c.boot 8 := by
    refine sub_mid _ (67 :: num c.serial 8) _ (num c.seq 8 ++ num c.segs.length 1 ++ segBytes c.segs ++ Z) 9 8 ?_ (by simp [L]) (L _ _)
    simp [eb, List.append_assoc]
  have e3 : sub (c.bytes ++ Z) 17 8 = num c.seq 8 := by
    refine sub_mid _ (67 :: (num c.serial 8 ++ num c.boot 8)) _ (num c.segs.length 1 ++ segBytes c.segs ++ Z) 17 8 ?_ (by simp [L]) (L _ _)
    simp [eb, List.append_assoc]
  have e4 : sub (c.bytes ++ Z) 25 1 = num c.segs.length 1 := by
    refine sub_mid _ (67 :: (num c.serial 8 ++ num c.boot 8 ++ num c.seq 8)) _ (segBytes c.segs ++ Z) 25 1 ?_ (by simp [L]) (L _ _)
    simp [eb, List.append_assoc]
  have e5 : (c.bytes ++ Z).drop 26 = segBytes c.segs ++ Z := by
    have : c.bytes ++ Z = (67 :: (num c.serial 8 ++ num c.boot 8 ++ num c.seq 8 ++ num c.segs.length 1)) ++ (segBytes c.segs ++ Z) := by simp [eb, List.append_assoc]
    rw [this, List.drop_append_of_le_length (by simp [L]), List.drop_of_length_le (by simp [L]), List.nil_append]
  have e6 : (c.bytes ++ Z).drop (26 + 2 * c.segs.length) = Z := by
    rw [← Cp.bytes_length, List.drop_append_of_le_length (Nat.le_refl _), List.drop_length, List.nil_append]
  have b1 : beN (num c.serial 8) = c.serial := beN_num_lt _ _ (by unfold top at h1; omega)
  have b2 : beN (num c.boot 8) = c.boot := beN_num_lt _ _ (by unfold top at h2; omega)
  have b3 : beN (num c.seq 8) = c.seq := beN_num_lt _ _ (by unfold top at h3; omega)
  have b4 : beN (num c.segs.length 1) = c.segs.length := beN_num_lt _ _ (by omega)
  have eh : (c.bytes ++ Z).head? = some 67 := by simp [eb]
  have ez : Z.all (· == 0) = true := by rw [← hZ]; simp
  have es := segsOf_bytes S hS c.segs [] Z (by simpa using h5)
  rw [List.nil_append] at es
  unfold cpOf
  rw [e1, e2, e3, e4, b1, b2, b3, b4, e5, e6, eh, if_neg (by simp only [ne_eq, not_true_eq_false, false_or]; omega), es]
  simp only [ez, if_pos]
end Go.Proofs.YtfiocakhgpdlfaaDoor.Sg

namespace Go.Proofs.YtfiocakhgpdlfaaDoor.Sg

/-- parts of one record, one behind the other -/
def Lays (sec : Nat → List UInt8) (boot seq of : Nat) : Nat → Nat → List (List UInt8) → Prop
  | _, _, [] => True
  | k, x, b :: r => partOf (sec x) = some ⟨boot, seq, k, of, b⟩ ∧ Lays sec boot seq of (k + 1) (x + 1) r
/-- a record lies at a sector -/
def RecAt (sec : Nat → List UInt8) (a boot seq of : Nat) (b : List UInt8) : Prop := ∃ bs : List (List UInt8), bs.length = of ∧ 1 ≤ of ∧ Lays sec boot seq of 0 a bs ∧ b = bs.flatten

theorem recGo_some (sec : Nat → List UInt8) (p0 : Part) (e : Nat) : ∀ (f k x : Nat) (b b' : List UInt8), recGo sec p0 e f k x b = some b' → ∃ bs : List (List UInt8), bs.length = f ∧ x + f ≤ max e x ∧ Lays sec p0.boot p0.seq p0.of k x bs ∧ b' = b ++ bs.flatten
  | 0, k, x, b, b', h => by
    rw [recGo] at h
    exact ⟨[], rfl, by omega, trivial, by simpa using h.symm⟩
  | f + 1, k, x, b, b', h => by
    rw [recGo] at h
    split at h
    · cases h
    · rename_i he
      split at h
      · cases h
      · rename_i p hp
        split at h
        · rename_i hm
          obtain ⟨h1, h2, h3, h4⟩ := hm
          obtain ⟨bs, i1, i2, i3, i4⟩ := recGo_some sec p0 e f _ _ _ _ h
          refine ⟨p.body :: bs, by simp [i1], by omega, ⟨?_, i3⟩, by rw [i4]; simp⟩
          rw [hp]; obtain ⟨a1, a2, a3, a4, a5⟩ := p
          simp only at h1 h2 h3 h4; subst h1; subst h2; subst h3; subst h4; rfl
        · cases h
theorem recGo_of (sec : Nat → List UInt8) (p0 : Part) (e : Nat) : ∀ (bs : List (List UInt8)) (k x : Nat) (b : List UInt8), x + bs.length ≤ e → Lays sec p0.boot p0.seq p0.of k x bs → recGo sec p0 e bs.length k x b = some (b ++ bs.flatten)
  | [], k, x, b, _, _ => by simp [recGo]
  | c :: bs, k, x, b, he, hl => by
    rw [List.length_cons] at he
    rw [List.length_cons, recGo, if_neg (by omega), hl.1]
    simp only
    rw [if_pos (by simp), recGo_of sec p0 e bs (k + 1) (x + 1) _ (by omega) hl.2]
    simp

theorem partOf_some {l : List UInt8} {p : Part} (h : partOf l = some p) : p.boot ≤ top ∧ p.seq ≤ top ∧ 1 ≤ p.of ∧ p.of ≤ 16 ∧ p.n < p.of := by
  unfold partOf at h
  split at h
  · cases h
  · rename_i hn
    injection h with h
    subst h
    simp only [not_or, Nat.not_lt, Nat.not_le] at hn
    exact ⟨hn.2.1, hn.2.2.1, hn.2.2.2.1, hn.2.2.2.2.1, hn.2.2.2.2.2.1⟩

theorem recOf_some {sec : Nat → List UInt8} {a e : Nat} {p : Part} {b : List UInt8} (h : recOf sec a e = some (p, b)) : RecAt sec a p.boot p.seq p.of b ∧ a + p.of ≤ e ∧ p.seq ≤ top ∧ p.of ≤ 16 := by
  unfold recOf at h
  split at h
  · cases h
  · rename_i he
    split at h
    · cases h
    · rename_i p0 hp
      split at h
      · rename_i hn
        obtain ⟨g1, g2, g3, g4, g5⟩ := partOf_some hp
        cases hg : recGo sec p0 e (p0.of - 1) 1 (a + 1) p0.body with
        | none => rw [hg] at h; cases h
        | some b' =>
          rw [hg] at h
          simp only [Option.map_some, Option.some.injEq, Prod.mk.injEq] at h
          obtain ⟨rfl, rfl⟩ := h
          obtain ⟨bs, i1, i2, i3, i4⟩ := recGo_some sec p0 e _ _ _ _ _ hg
          refine ⟨⟨p0.body :: bs, by rw [List.length_cons, i1]; omega, g3, ⟨?_, i3⟩, by rw [i4]; rfl⟩, by omega, g2, g4⟩
          rw [hp]; obtain ⟨a1, a2, a3, a4, a5⟩ := p0
          simp only at hn; subst hn; rfl
      · cases h
theorem recOf_of {sec : Nat → List UInt8} {a e boot seq of : Nat} {b : List UInt8} (h : RecAt sec a boot seq of b) (he : a + of ≤ e) : ∃ p, recOf sec a e = some (p, b) ∧ p.boot = boot ∧ p.seq = seq ∧ p.of = of := by
  obtain ⟨bs, h1, h2, h3, rfl⟩ := h
  cases bs with
  | nil => simp at h1; omega
  | cons c bs =>
    obtain ⟨hp, hl⟩ := h3
    rw [List.length_cons] at h1
    refine ⟨⟨boot, seq, 0, of, c⟩, ?_, rfl, rfl, rfl⟩
    unfold recOf
    rw [if_neg (by omega), hp]
    simp only [if_true]
    have := recGo_of sec ⟨boot, seq, 0, of, c⟩ e bs 1 (a + 1) c (by omega) hl
    have e1 : of - 1 = bs.length := by omega
    rw [e1, this]
    simp
theorem RecAt.le {sec : Nat → List UInt8} {a boot seq of : Nat} {b : List UInt8} (h : RecAt sec a boot seq of b) : 1 ≤ of ∧ of ≤ 16 ∧ seq ≤ top ∧ boot ≤ top ∧ ∃ c, partOf (sec a) = some ⟨boot, seq, 0, of, c⟩ := by
  obtain ⟨bs, h1, h2, h3, rfl⟩ := h
  cases bs with
  | nil => simp at h1; omega
  | cons c bs =>
    obtain ⟨hp, hl⟩ := h3
    obtain ⟨g1, g2, g3, g4, g5⟩ := partOf_some hp
    exact ⟨g3, g4, g2, g1, c, hp⟩
theorem Lays.congr {sec sec' : Nat → List UInt8} {boot seq of : Nat} : ∀ {bs : List (List UInt8)} {k x : Nat}, Lays sec boot seq of k x bs → (∀ y, x ≤ y → y < x + bs.length → sec' y = sec y) → Lays sec' boot seq of k x bs
  | [], _, _, _, _ => trivial
  | b :: r, k, x, h, hs => ⟨by rw [hs x (Nat.le_refl _) (by simp)]; exact h.1, h.2.congr (fun y h1 h2 => hs y (by omega) (by simp; omega))⟩
theorem RecAt.congr {sec sec' : Nat → List UInt8} {a boot seq of : Nat} {b : List UInt8} (h : RecAt sec a boot seq of b) (hs : ∀ y, a ≤ y → y < a + of → sec' y = sec y) : RecAt sec' a boot seq of b := by
  obtain ⟨bs, h1, h2, h3, h4⟩ := h
  exact ⟨bs, h1, h2, h3.congr (by rw [h1]; exact hs), h4⟩
theorem Lays.at {sec : Nat → List UInt8} {boot seq of : Nat} : ∀ {bs : List (List UInt8)} {k x : Nat}, Lays sec boot seq of k x bs → ∀ j, j < bs.length → ∃ c, partOf (sec (x + j)) = some ⟨boot, seq, k + j, of, c⟩
  | [], _, _, _, j, hj => by simp at hj
  | b :: r, k, x, h, 0, _ => ⟨b, h.1⟩
  | b :: r, k, x, h, j + 1, hj => by
    obtain ⟨c, hc⟩ := h.2.at j (by simpa using hj)
    exact ⟨c, by rw [show x + (j + 1) = x + 1 + j by omega, show k + (j + 1) = k + 1 + j by omega]; exact hc⟩

/-- records tile a segment from a sector to another -/
def Tiles (sec : Nat → List UInt8) (id e : Nat) : Nat → List Rec → Prop
  | a, [] => a = e
  | a, r :: rs => ∃ boot of, RecAt sec a boot r.seq of r.body ∧ r.seg = id ∧ a + of ≤ e ∧ Tiles sec id e (a + of) rs
/-- records of one boot, one number behind the other -/
def Tail (sec : Nat → List UInt8) (id boot e : Nat) : Nat → Nat → List Rec → Prop
  | a, _, [] => a = e
  | a, q, r :: rs => ∃ of, RecAt sec a boot q of r.body ∧ r.seq = q ∧ r.seg = id ∧ a + of ≤ e ∧ Tail sec id boot e (a + of) (q + 1) rs
def Stop (sec : Nat → List UInt8) (boot seq a : Nat) : Prop := ∀ of b, RecAt sec a boot seq of b → 16 < a + of

theorem Tiles.congr {sec sec' : Nat → List UInt8} {id e : Nat} : ∀ {rs : List Rec} {a : Nat}, Tiles sec id e a rs → (∀ y, a ≤ y → y < e → sec' y = sec y) → Tiles sec' id e a rs
  | [], _, h, _ => h
  | r :: rs, a, ⟨boot, of, h1, h2, h3, h4⟩, hs => ⟨boot, of, h1.congr (fun y g1 g2 => hs y g1 (by omega)), h2, h3, h4.congr (fun y g1 g2 => hs y (by omega) g2)⟩
theorem Tail.congr {sec sec' : Nat → List UInt8} {id boot e : Nat} : ∀ {rs : List Rec} {a q : Nat}, Tail sec id boot e a q rs → (∀ y, a ≤ y → y < e → sec' y = sec y) → Tail sec' id boot e a q rs
  | [], _, _, h, _ => h
  | r :: rs, a, q, ⟨of, h1, h2, h3, h4, h5⟩, hs => ⟨of, h1.congr (fun y g1 g2 => hs y g1 (by omega)), h2, h3, h4, h5.congr (fun y g1 g2 => hs y (by omega) g2)⟩
theorem Tiles.le {sec : Nat → List UInt8} {id e : Nat} : ∀ {rs : List Rec} {a : Nat}, Tiles sec id e a rs → a + rs.length ≤ e
  | [], _, h => by have : _ = _ := h; simp; omega
  | r :: rs, a, ⟨boot, of, h1, h2, h3, h4⟩ => by have := h4.le; have := h1.le.1; simp; omega
theorem Tail.le {sec : Nat → List UInt8} {id boot e : Nat} : ∀ {rs : List Rec} {a q : Nat}, Tail sec id boot e a q rs → a + rs.length ≤ e
  | [], _, _, h => by have : _ = _ := h; simp; omega
  | r :: rs, a, q, ⟨of, h1, h2, h3, h4, h5⟩ => by have := h5.le; have := h1.le.1; simp; omega
theorem Tail.tiles {sec : Nat → List UInt8} {id boot e : Nat} : ∀ {rs : List Rec} {a q : Nat}, Tail sec id boot e a q rs → Tiles sec id e a rs
  | [], _, _, h => h
  | r :: rs, a, q, ⟨of, h1, h2, h3, h4, h5⟩ => ⟨boot, of, by rw [h2]; exact h1, h3, h4, h5.tiles⟩
theorem Tiles.up {sec : Nat → List UInt8} {id e e' : Nat} : ∀ {rs rs' : List Rec} {a : Nat}, Tiles sec id e a rs → e ≤ e' → Tiles sec id e' e rs' → Tiles sec id e' a (rs ++ rs')
  | [], _, _, h, _, h' => by have : _ = _ := h; subst this; exact h'
  | r :: rs, rs', a, ⟨boot, of, h1, h2, h3, h4⟩, hle, h' => ⟨boot, of, h1, h2, by omega, h4.up hle h'⟩
theorem Tail.snoc {sec : Nat → List UInt8} {id boot e of : Nat} {x : Rec} : ∀ {rs : List Rec} {a q : Nat}, Tail sec id boot e a q rs → RecAt sec e boot (q + rs.length) of x.body → x.seq = q + rs.length → x.seg = id → Tail sec id boot (e + of) a q (rs ++ [x])
  | [], a, q, h, hr, hs, hg => by
    have : a = e := h
    subst this
    exact ⟨of, by simpa using hr, by simpa using hs, hg, Nat.le_refl _, rfl⟩
  | r :: rs, a, q, ⟨o1, h1, h2, h3, h4, h5⟩, hr, hs, hg => by
    rw [List.length_cons] at hr hs
    exact ⟨o1, h1, h2, h3, by omega, h5.snoc (by rw [show q + 1 + rs.length = q + (rs.length + 1) by omega]; exact hr) (by omega) hg⟩
theorem Tail.seqs {sec : Nat → List UInt8} {id boot e : Nat} : ∀ {rs : List Rec} {a q : Nat}, Tail sec id boot e a q rs → (∀ r ∈ rs, q ≤ r.seq ∧ r.seq < q + rs.length ∧ r.seg = id) ∧ rs.Pairwise (fun x y => x.seq < y.seq)
  | [], _, _, _ => ⟨by simp, .nil⟩
  | r :: rs, a, q, ⟨of, h1, h2, h3, h4, h5⟩ => by
    obtain ⟨i1, i2⟩ := h5.seqs
    refine ⟨fun x hx => ?_, List.pairwise_cons.2 ⟨fun y hy => ?_, i2⟩⟩
    · rcases List.mem_cons.1 hx with rfl | hx
      · rw [h2, List.length_cons]; exact ⟨Nat.le_refl _, by omega, h3⟩
      · have := i1 x hx; rw [List.length_cons]; exact ⟨by omega, by omega, this.2.2⟩
    · have := i1 y hy; omega

/-- by rising numbers -/
abbrev Rising (l : List Rec) : Prop := l.Pairwise fun x y => x.seq < y.seq
theorem rising_last {out : List Rec} {r : Rec} {rs : List Rec} (h : Rising (out ++ r :: rs)) : (out.getLast?.any fun x => decide (r.seq ≤ x.seq)) = false := by
  cases hl : out.getLast? with
  | none => rfl
  | some x =>
    have hx : x ∈ out := List.mem_of_getLast? hl
    have := (List.pairwise_append.1 h).2.2 x hx r (by simp)
    simp; omega
theorem knownSeg_of {sec : Nat → List UInt8} {id used seq : Nat} : ∀ (f : Nat) (rs : List Rec) (a : Nat) (out : List Rec), Tiles sec id used a rs → rs.length < f → Rising (out ++ rs) → (∀ r ∈ rs, r.seq < seq) → knownSeg sec seq id used f a out = some (out ++ rs)
  | 0, _, _, _, _, hf, _, _ => by omega
  | f + 1, [], a, out, h, _, _, _ => by
    have : a = used := h
    rw [knownSeg, if_pos (by omega), List.append_nil]
  | f + 1, r :: rs, a, out, ⟨boot, of, h1, h2, h3, h4⟩, hf, hR, hs => by
    have hle := h1.le
    obtain ⟨p, e1, e2, e3, e4⟩ := recOf_of h1 h3
    have hr := hs r (by simp)
    rw [knownSeg, if_neg (by omega), e1]
    simp only
    rw [e3, rising_last hR, if_neg (by simp; omega), e4, ← h2]
    have := knownSeg_of f rs (a + of) (out ++ [⟨r.seq, r.seg, r.body⟩]) (h2 ▸ h4) (by simp at hf; omega) (by simpa using hR) (fun x hx => hs x (by simp [hx]))
    rw [this]
    simp

/-- what segments hold -/
def Laid (S : List ByteArray) : List Seg → List Rec → Prop
  | [], l => l = []
  | s :: r, l => ∃ rs rest, l = rs ++ rest ∧ Tiles (segOf S s.id) s.id s.used 0 rs ∧ Laid S r rest
theorem known_of {S : List ByteArray} {seq : Nat} : ∀ (segs : List Seg) (all out : List Rec), Laid S segs all → (∀ s ∈ segs, s.used ≤ 16) → Rising (out ++ all) → (∀ r ∈ all, r.seq < seq) → known S seq segs out = some (out ++ all)
  | [], all, out, h, _, _, _ => by
    have : all = [] := h
    subst this
    rw [known, List.append_nil]
  | s :: r, all, out, h, hu, hR, hs => by
    obtain ⟨rs, rest, rfl, h1, h2⟩ := h
    have hle := h1.le
    have hus := hu s (by simp)
    rw [← List.append_assoc] at hR
    rw [known, knownSeg_of 17 rs 0 out h1 (by omega) (List.pairwise_append.1 hR).1 (fun x hx => hs x (by simp [hx]))]
    simp only
    rw [known_of r rest (out ++ rs) h2 (fun x hx => hu x (by simp [hx])) hR (fun x hx => hs x (by simp [hx]))]
    simp
theorem further_of {sec : Nat → List UInt8} {id boot e : Nat} : ∀ (f : Nat) (rs : List Rec) (a q : Nat) (out : List Rec), Tail sec id boot e a q rs → e ≤ 16 → rs.length < f → q + rs.length < top → Stop sec boot (q + rs.length) e → further sec boot id f a q out = (e, q + rs.length, out ++ rs)
  | 0, _, _, _, _, _, _, hf, _, _ => by omega
  | f + 1, [], a, q, out, h, he, _, hq, hst => by
    have : a = e := h
    subst this
    simp only [List.length_nil, Nat.add_zero] at hq hst ⊢
    rw [further, if_neg (by omega), List.append_nil]
    cases hr : recOf sec a 16 with
    | none => rfl
    | some pb =>
      obtain ⟨p, b⟩ := pb
      obtain ⟨g1, g2, _⟩ := recOf_some hr
      simp only
      rw [if_neg]
      rintro ⟨rfl, rfl⟩
      have := hst _ _ g1
      omega
  | f + 1, r :: rs, a, q, out, ⟨of, h1, h2, h3, h4, h5⟩, he, hf, hq, hst => by
    obtain ⟨p, e1, e2, e3, e4⟩ := recOf_of h1 (show a + of ≤ 16 by omega)
    rw [List.length_cons] at hq hst hf
    rw [further, if_neg (by omega), e1]
    simp only
    rw [if_pos ⟨e2, e3⟩, e4, e3, further_of f rs (a + of) (q + 1) _ h5 he (by omega) (by omega) (by rw [show q + 1 + rs.length = q + (rs.length + 1) by omega]; exact hst), ← h2, ← h3]
    simp
    omega
end Go.Proofs.YtfiocakhgpdlfaaDoor.Sg

namespace Go.Proofs.YtfiocakhgpdlfaaDoor.Sg

/-- a log lies on sectors: what its newest checkpoint tells (all), and what stands behind it (rs, up to e) -/
structure J (S : List ByteArray) (c : Cp) (place : Nat) (all rs : List Rec) (e : Nat) : Prop where
  len : 66 ≤ S.length
  pl : place ≤ 1
  here : cpOf (secOf S place) (segsN S) = some c
  there : ∀ c', cpOf (secOf S (1 - place)) (segsN S) = some c' → c'.serial < c.serial
  ok : c.Ok (segsN S)
  laid : Laid S c.segs all
  rising : Rising all
  below : ∀ r ∈ all, r.seq < c.seq
  tail : Tail (segOf S (lastSeg c).id) (lastSeg c).id c.boot e (lastSeg c).used c.seq rs
  e16 : e ≤ 16
  stop : Stop (segOf S (lastSeg c).id) c.boot (c.seq + rs.length) e
  old : ∀ n p, 2 ≤ n → partOf (secOf S n) = some p → p.boot ≤ c.boot
/-- a log that lies on sectors, as opening it would find it -/
def C (S : List ByteArray) (cur : Cp) (place : Nat) (all : List Rec) : Prop := ∃ c all0 rs e, J S c place all0 rs e ∧ all = all0 ++ rs ∧ cur = setLast c e (c.seq + rs.length)
structure Idle (d : Dk) : Prop where
  off : d.off = false
  queue : d.queue = []
  last : d.last = d.now
structure Dead (d : Dk) : Prop where
  off : d.off = true
  queue : d.queue = []
  last : d.last = d.now
/-- an open log -/
structure I (d : Dk) (l : Lg) (all : List Rec) : Prop where
  idle : Idle d
  c : C d.now l.cp l.place all
  fresh : ∀ n p, 2 ≤ n → partOf (secOf d.now n) = some p → p.boot = l.cp.boot → p.seq < l.cp.seq

/-! the disk -/
def sets (S : List ByteArray) (ws : List Wr) : List ByteArray := ws.foldl (fun l w => l.set w.n w.data) S
/-- some of the writes have come through -/
def Mix (S S' : List ByteArray) (ws : List Wr) : Prop := S'.length = S.length ∧ ∀ x : Nat, S'[x]? = S[x]? ∨ ∃ w ∈ ws, w.n = x ∧ x < S.length ∧ S'[x]? = some w.data
structure Pending (S : List ByteArray) (ws : List Wr) (d : Dk) : Prop where
  off : d.off = false
  last : d.last = S
  queue : d.queue = ws
  now : d.now = sets S ws
theorem sets_length (ws : List Wr) : ∀ S, (sets S ws).length = S.length := by
  induction ws with
  | nil => intro S; rfl
  | cons w r ih => intro S; show (sets (S.set w.n w.data) r).length = _; rw [ih]; simp
theorem sets_snoc (S : List ByteArray) (ws : List Wr) (w : Wr) : sets S (ws ++ [w]) = (sets S ws).set w.n w.data := by simp [sets]
theorem Mix.refl (S : List ByteArray) (ws : List Wr) : Mix S S ws := ⟨rfl, fun _ => .inl rfl⟩
theorem loseL_mix (keep : Int) : ∀ (ws : List Wr) (i : Nat) (S : List ByteArray), Mix S (loseL keep ws i S) ws
  | [], _, S => Mix.refl S _
  | w :: r, i, S => by
    rw [loseL]
    obtain ⟨h1, h2⟩ := loseL_mix keep r (i + 1) (if kb keep i then S.set w.n w.data else S)
    have hl : (if kb keep i then S.set w.n w.data else S).length = S.length := by split <;> simp
    refine ⟨by rw [h1, hl], fun x => ?_⟩
    rcases h2 x with h | ⟨v, hv, h3, h4, h5⟩
    · rw [h]
      split
      · by_cases hx : w.n = x
        · subst hx
          by_cases hlt : w.n < S.length
          · exact .inr ⟨w, by simp, rfl, hlt, by simp [List.getElem?_set, hlt]⟩
          · exact .inl (by rw [List.getElem?_set, if_pos rfl, if_neg hlt, List.getElem?_eq_none (by omega)])
        · exact .inl (by rw [List.getElem?_set, if_neg hx])
      · exact .inl rfl
    · exact .inr ⟨v, by simp [hv], h3, by rw [← hl]; exact h4, h5⟩
theorem write_spec {S : List ByteArray} {ws : List Wr} {d : Dk} (h : Pending S ws d) (n : Nat) (s : ByteArray) :
    ((d.write n s).2 = 0 ∧ Pending S (ws ++ [⟨n, s⟩]) (d.write n s).1 ∧ (d.write n s).1.left ≤ d.left) ∨ ((d.write n s).2 = 20 ∧ Dead (d.write n s).1 ∧ Mix S (d.write n s).1.now (ws ++ [⟨n, s⟩]) ∧ d.left ≠ 0) := by
  obtain ⟨h1, h2, h3, h4⟩ := h
  unfold Dk.write
  rw [h1]
  simp only [Bool.false_eq_true, if_false]
  by_cases ht : d.torn = true
  · rw [if_pos ht]
    refine .inr ⟨rfl, ⟨rfl, rfl, rfl⟩, ?_, fun e => by simp [Dk.torn, e] at ht⟩
    show Mix S (loseL d.keep (d.queue ++ [⟨n, s⟩]) 0 d.last) _
    rw [h2, h3]
    exact loseL_mix _ _ _ _
  · rw [if_neg ht]
    refine .inl ⟨rfl, ⟨h1, h2, by show d.queue ++ _ = _; rw [h3], ?_⟩, by show d.left - 1 ≤ d.left; omega⟩
    show d.now.set n s = _
    rw [sets_snoc, h4]
theorem flush_spec {S : List ByteArray} {ws : List Wr} {d : Dk} (h : Pending S ws d) :
    (d.flush.2 = 0 ∧ Idle d.flush.1 ∧ d.flush.1.now = sets S ws ∧ d.flush.1.left ≤ d.left) ∨ (d.flush.2 = 20 ∧ Dead d.flush.1 ∧ Mix S d.flush.1.now ws ∧ d.left ≠ 0) := by
  obtain ⟨h1, h2, h3, h4⟩ := h
  unfold Dk.flush
  rw [h1]
  simp only [Bool.false_eq_true, if_false]
  by_cases ht : d.torn = true
  · rw [if_pos ht]
    refine .inr ⟨rfl, ⟨rfl, rfl, rfl⟩, ?_, fun e => by simp [Dk.torn, e] at ht⟩
    show Mix S (loseL d.keep d.queue 0 d.last) _
    rw [h2, h3]
    exact loseL_mix _ _ _ _
  · rw [if_neg ht]
    exact .inl ⟨rfl, ⟨h1, rfl, rfl⟩, h4, by show d.left - 1 ≤ d.left; omega⟩
theorem Idle.pending {d : Dk} (h : Idle d) : Pending d.now [] d := ⟨h.off, h.last, h.queue, rfl⟩

theorem secOf_eq {S S' : List ByteArray} {n m : Nat} (h : S'[n]? = S[m]?) : secOf S' n = secOf S m := by
  unfold secOf
  rw [List.getD_eq_getElem?_getD, List.getD_eq_getElem?_getD, h]
theorem secOf_some {S : List ByteArray} {n : Nat} {s : ByteArray} (h : S[n]? = some s) : secOf S n = full s := by
  unfold secOf
  rw [List.getD_eq_getElem?_getD, h]; rfl
theorem secOf_set_ne (S : List ByteArray) (k n : Nat) (s : ByteArray) (h : k ≠ n) : secOf (S.set k s) n = secOf S n := secOf_eq (by rw [List.getElem?_set, if_neg h])
theorem secOf_set (S : List ByteArray) (k : Nat) (s : ByteArray) (h : k < S.length) : secOf (S.set k s) k = full s := secOf_some (by rw [List.getElem?_set, if_pos rfl, if_pos h])
theorem segsN_le (S : List ByteArray) : segsN S ≤ 64 := by unfold segsN; omega
theorem segsN_len {S S' : List ByteArray} (h : S'.length = S.length) : segsN S' = segsN S := by unfold segsN; rw [h]
theorem mix_one {S S' : List ByteArray} {k : Nat} {s : ByteArray} (h : Mix S S' [⟨k, s⟩]) : S' = S ∨ S' = S.set k s := by
  obtain ⟨h1, h2⟩ := h
  by_cases hk : S'[k]? = S[k]?
  · refine .inl (List.ext_getElem? fun x => ?_)
    rcases h2 x with h | ⟨w, hw, h3, _, h5⟩
    · exact h
    · have : w = ⟨k, s⟩ := by simpa using hw
      subst this
      have : k = x := h3
      subst this; exact hk
  · refine .inr (List.ext_getElem? fun x => ?_)
    rw [List.getElem?_set]
    rcases h2 x with h | ⟨w, hw, h3, h4, h5⟩
    · have hne : k ≠ x := fun e => hk (e ▸ h)
      rw [if_neg hne]; exact h
    · have : w = ⟨k, s⟩ := by simpa using hw
      subst this
      have : k = x := h3
      subst this
      rw [if_pos rfl, if_pos h4]; exact h5

/-! segments -/
theorem last_split {c : Cp} (h : c.segs ≠ []) : c.segs = c.segs.dropLast ++ [lastSeg c] := by
  unfold lastSeg
  rw [List.getLastD_eq_getLast?, List.getLast?_eq_some_getLast h]
  exact (List.dropLast_concat_getLast h).symm
theorem lastSeg_mk (a b q : Nat) (l : List Seg) (s : Seg) : lastSeg ⟨a, b, q, l ++ [s]⟩ = s := by unfold lastSeg; simp [List.getLastD_eq_getLast?]
theorem lastSeg_of {c : Cp} {l : List Seg} {s : Seg} (h : c.segs = l ++ [s]) : lastSeg c = s := by unfold lastSeg; rw [h]; simp [List.getLastD_eq_getLast?]
theorem setLast_last (c : Cp) (e q : Nat) : lastSeg (setLast c e q) = ⟨(lastSeg c).id, e⟩ := lastSeg_of rfl
theorem Laid.append {S : List ByteArray} : ∀ {l m : List Seg} {a b : List Rec}, Laid S l a → Laid S m b → Laid S (l ++ m) (a ++ b)
  | [], m, a, b, h, h' => by have : a = [] := h; subst this; exact h'
  | s :: r, m, a, b, ⟨rs, rest, e, h1, h2⟩, h' => ⟨rs, rest ++ b, by rw [e, List.append_assoc], h1, h2.append h'⟩
theorem Laid.split {S : List ByteArray} : ∀ {l m : List Seg} {x : List Rec}, Laid S (l ++ m) x → ∃ a b, x = a ++ b ∧ Laid S l a ∧ Laid S m b
  | [], m, x, h => ⟨[], x, rfl, rfl, h⟩
  | s :: r, m, x, ⟨rs, rest, e, h1, h2⟩ => by
    obtain ⟨a, b, e2, h3, h4⟩ := h2.split
    exact ⟨rs ++ a, b, by rw [e, e2, List.append_assoc], ⟨rs, a, rfl, h1, h3⟩, h4⟩
theorem laid_one {S : List ByteArray} {s : Seg} {rs : List Rec} : Laid S [s] rs ↔ Tiles (segOf S s.id) s.id s.used 0 rs :=
  ⟨fun ⟨a, b, e, h1, h2⟩ => by have : b = [] := h2; subst this; rw [e, List.append_nil]; exact h1, fun h => ⟨rs, [], by simp, h, rfl⟩⟩
theorem Laid.congr {S S' : List ByteArray} : ∀ {l : List Seg} {x : List Rec}, Laid S l x → (∀ s ∈ l, ∀ k, k < s.used → segOf S' s.id k = segOf S s.id k) → Laid S' l x
  | [], _, h, _ => h
  | s :: r, x, ⟨rs, rest, e, h1, h2⟩, hs => ⟨rs, rest, e, h1.congr (fun y _ hy => hs s (by simp) y hy), h2.congr (fun t ht => hs t (by simp [ht]))⟩
theorem Tiles.seg {sec : Nat → List UInt8} {id e : Nat} : ∀ {rs : List Rec} {a : Nat}, Tiles sec id e a rs → ∀ r ∈ rs, r.seg = id
  | [], _, _, r, hr => by simp at hr
  | x :: rs, a, ⟨boot, of, h1, h2, h3, h4⟩, r, hr => by
    rcases List.mem_cons.1 hr with rfl | hr
    · exact h2
    · exact h4.seg r hr

theorem setLast_ok {c : Cp} {S e q : Nat} (h : c.Ok S) (he : e ≤ 16) (hq : q ≤ top) : (setLast c e q).Ok S := by
  obtain ⟨h1, h2, h3, h4, h5⟩ := h
  refine ⟨h1, h2, hq, by simp [setLast], ?_⟩
  have hs := last_split h4
  obtain ⟨g1, g2, g3⟩ := h5
  have hm : (c.segs.dropLast ++ [(⟨(lastSeg c).id, e⟩ : Seg)]).map (·.id) = c.segs.map (·.id) := by
    conv => rhs; rw [hs]
    simp
  refine ⟨by show ((c.segs.dropLast ++ [(⟨(lastSeg c).id, e⟩ : Seg)]).map (·.id)).Nodup; rw [hm]; exact g1, fun s hs' => ?_, fun s hs' => ?_⟩
  · have h6 : s ∈ c.segs.dropLast ++ [(⟨(lastSeg c).id, e⟩ : Seg)] := hs'
    rcases List.mem_append.1 h6 with h6 | h6
    · exact g2 s (by rw [hs]; exact List.mem_append_left _ h6)
    · have : s = ⟨(lastSeg c).id, e⟩ := by simpa using h6
      rw [this]; exact g2 (lastSeg c) (by rw [hs]; simp)
  · have h6 : s ∈ c.segs.dropLast ++ [(⟨(lastSeg c).id, e⟩ : Seg)] := hs'
    rcases List.mem_append.1 h6 with h6 | h6
    · exact g3 s (by rw [hs]; exact List.mem_append_left _ h6)
    · have : s = ⟨(lastSeg c).id, e⟩ := by simpa using h6
      rw [this]; exact he

/-- what a closed log's newest state is -/
structure Cur (S : List ByteArray) (cur : Cp) (all : List Rec) : Prop where
  len : 66 ≤ S.length
  ok : cur.seq ≤ top → cur.Ok (segsN S)
  laid : Laid S cur.segs all
  rising : Rising all
  below : ∀ r ∈ all, r.seq < cur.seq
  stop : Stop (segOf S (lastSeg cur).id) cur.boot cur.seq (lastSeg cur).used
  used : (lastSeg cur).used ≤ 16
  old : ∀ n p, 2 ≤ n → partOf (secOf S n) = some p → p.boot ≤ cur.boot
  ne : cur.segs ≠ []
theorem C.cur {S : List ByteArray} {cur : Cp} {place : Nat} {all : List Rec} (h : C S cur place all) : Cur S cur all := by
  obtain ⟨c, all0, rs, e, h, rfl, rfl⟩ := h
  obtain ⟨s1, s2⟩ := h.tail.seqs
  refine ⟨h.len, fun hq => setLast_ok h.ok h.e16 hq, ?_, ?_, ?_, ?_, ?_, h.old, by simp [setLast]⟩
  · have hl := h.laid
    rw [last_split h.ok.ne] at hl
    obtain ⟨a, b, rfl, h1, h2⟩ := hl.split
    rw [List.append_assoc]
    exact h1.append (laid_one.2 ((laid_one.1 h2).up (by have := h.tail.le; show (lastSeg c).used ≤ e; omega) h.tail.tiles))
  · exact List.pairwise_append.2 ⟨h.rising, s2, fun x hx y hy => by have := h.below x hx; have := (s1 y hy).1; omega⟩
  · intro r hr
    show r.seq < c.seq + rs.length
    rcases List.mem_append.1 hr with hr | hr
    · have := h.below r hr; omega
    · exact (s1 r hr).2.1
  · rw [setLast_last]; exact h.stop
  · rw [setLast_last]; exact h.e16

/-- a checkpoint that comes next has been saved -/
theorem saved_J {S : List ByteArray} {c c1 : Cp} {place : Nat} {all' : List Rec} (hlen : 66 ≤ S.length) (hp : place ≤ 1) (hh : cpOf (secOf S place) (segsN S) = some c) (hser : c.serial < c1.serial) (hok : c1.Ok (segsN S)) (hl : Laid S c1.segs all') (hr : Rising all')
    (hb : ∀ r ∈ all', r.seq < c1.seq) (hst : Stop (segOf S (lastSeg c1).id) c1.boot c1.seq (lastSeg c1).used) (hu : (lastSeg c1).used ≤ 16) (hold : ∀ n p, 2 ≤ n → partOf (secOf S n) = some p → p.boot ≤ c1.boot) :
    C (S.set (1 - place) (toB c1.bytes)) c1 (1 - place) all' := by
  have hN : segsN (S.set (1 - place) (toB c1.bytes)) = segsN S := segsN_len (by simp)
  have hsec : ∀ n, 2 ≤ n → secOf (S.set (1 - place) (toB c1.bytes)) n = secOf S n := fun n hn => secOf_set_ne _ _ _ _ (by omega)
  have hseg : ∀ id k, segOf (S.set (1 - place) (toB c1.bytes)) id k = segOf S id k := fun id k => hsec _ (by omega)
  have hseg' : ∀ id, segOf (S.set (1 - place) (toB c1.bytes)) id = segOf S id := fun id => funext (hseg id)
  refine ⟨c1, all', [], (lastSeg c1).used, ⟨by simpa using hlen, by omega, ?_, ?_, by rw [hN]; exact hok, ?_, hr, hb, ?_, hu, ?_, ?_⟩, by simp, ?_⟩
  · rw [secOf_set _ _ _ (by omega), hN]
    exact cpOf_bytes c1 _ (segsN_le S) hok
  · intro c' hc'
    rw [show 1 - (1 - place) = place by omega, secOf_set_ne _ _ _ _ (by omega), hN, hh] at hc'
    injection hc' with e
    rw [← e]; exact hser
  · exact hl.congr (fun s _ k _ => hseg _ _)
  · exact rfl
  · rw [hseg']; simpa using hst
  · intro n p hn hp'
    rw [hsec n hn] at hp'
    exact hold n p hn hp'
  · obtain ⟨a, b, q, l⟩ := c1
    have := last_split (c := ⟨a, b, q, l⟩) hok.ne
    simp only [setLast, List.length_nil, Nat.add_zero] at this ⊢
    rw [← this]
theorem save_spec {d : Dk} {l : Lg} {c1 : Cp} (hi : Idle d) (hf : fitsC c1 = true) :
    ((save d l c1).2.2 = 0 ∧ Idle (save d l c1).1 ∧ (save d l c1).1.now = d.now.set (1 - l.place) (toB c1.bytes) ∧ (save d l c1).2.1 = ⟨c1, 1 - l.place⟩ ∧ (save d l c1).1.left ≤ d.left) ∨
    ((save d l c1).2.2 = 20 ∧ Dead (save d l c1).1 ∧ ((save d l c1).1.now = d.now ∨ (save d l c1).1.now = d.now.set (1 - l.place) (toB c1.bytes)) ∧ d.left ≠ 0) := by
  unfold save
  rw [if_neg (by simp [hf])]
  rcases write_spec hi.pending (1 - l.place) (toB c1.bytes) with ⟨e1, hp, hle⟩ | ⟨e1, hd, hm, hne⟩
  · simp only
    rw [if_neg (by simp [e1])]
    rcases flush_spec hp with ⟨e2, hi2, hn, hle2⟩ | ⟨e2, hd, hm, hne⟩
    · rw [if_neg (by simp [e2])]
      exact .inl ⟨rfl, hi2, hn, rfl, Nat.le_trans hle2 hle⟩
    · rw [if_pos (by simp [e2])]
      exact .inr ⟨e2, hd, mix_one hm, by omega⟩
  · simp only
    rw [if_pos (by simp [e1])]
    exact .inr ⟨e1, hd, mix_one hm, hne⟩
end Go.Proofs.YtfiocakhgpdlfaaDoor.Sg

namespace Go.Proofs.YtfiocakhgpdlfaaDoor.Sg

theorem pick_J {S : List ByteArray} {c : Cp} {place : Nat} {all rs : List Rec} {e : Nat} (h : J S c place all rs e) : pick S = some (c, place) := by
  have hp := h.pl
  have h1 := h.here
  have h2 := h.there
  unfold pick
  rcases (show place = 0 ∨ place = 1 by omega) with rfl | rfl
  · rw [h1]
    cases hc : cpOf (secOf S 1) (segsN S) with
    | none => rfl
    | some b =>
      have := h2 b hc
      simp only
      rw [if_neg (by omega)]
  · rw [h1]
    cases hc : cpOf (secOf S 0) (segsN S) with
    | none => rfl
    | some b =>
      have := h2 b hc
      simp only
      rw [if_pos this]
theorem Cur.same {S S' : List ByteArray} {cur : Cp} {all : List Rec} (h : Cur S cur all) (hl : S'.length = S.length) (hs : ∀ n, 2 ≤ n → secOf S' n = secOf S n) : Cur S' cur all := by
  have hseg : ∀ id, segOf S' id = segOf S id := fun id => funext fun k => hs _ (by omega)
  exact ⟨by rw [hl]; exact h.len, fun hq => by rw [segsN_len hl]; exact h.ok hq, h.laid.congr (fun s _ k _ => by rw [hseg]), h.rising, h.below, by rw [hseg]; exact h.stop, h.used, fun n p hn hp => h.old n p hn (by rw [← hs n hn]; exact hp), h.ne⟩

theorem C.here {S : List ByteArray} {cur : Cp} {place : Nat} {all : List Rec} (h : C S cur place all) : place ≤ 1 ∧ ∃ c, cpOf (secOf S place) (segsN S) = some c ∧ c.serial = cur.serial ∧ c.boot = cur.boot := by
  obtain ⟨c, all0, rs, e, h, _, rfl⟩ := h
  exact ⟨h.pl, c, h.here, rfl, rfl⟩
/-- the checkpoint behind an opening -/
def booted (c : Cp) : Cp := { c with serial := c.serial + 1, boot := c.boot + 1 }
theorem noRec_of_fresh {S : List ByteArray} {boot seq : Nat} (h : ∀ n p, 2 ≤ n → partOf (secOf S n) = some p → p.boot = boot → p.seq < seq) (id a : Nat) : Stop (segOf S id) boot seq a := by
  intro of b hr
  obtain ⟨_, _, _, _, c, hc⟩ := hr.le
  have : seq < seq := h (2 + id * 16 + a) ⟨boot, seq, 0, of, c⟩ (by omega) hc rfl
  omega
theorem fits_of {c : Cp} (h1 : c.serial ≤ top) (h2 : c.boot ≤ top) (h3 : c.seq ≤ top) : fitsC c = true := by simp [fitsC, h1, h2, h3]

theorem open_spec {d : Dk} {cur : Cp} {place : Nat} {all : List Rec} (hi : Idle d) (h : C d.now cur place all) (hs : cur.serial < top) (hb : cur.boot < top) (hq : cur.seq < top) :
    (∃ d', openL d = .ok d' ⟨booted cur, 1 - place⟩ all ∧ I d' ⟨booted cur, 1 - place⟩ all ∧ d'.left ≤ d.left ∧ d'.now.length = d.now.length) ∨
    (∃ d', openL d = .bad d' 20 ∧ Dead d' ∧ d.left ≠ 0 ∧ d'.now.length = d.now.length ∧ (C d'.now cur place all ∨ C d'.now (booted cur) (1 - place) all)) := by
  have hcur := h.cur
  have hok : cur.Ok (segsN d.now) := hcur.ok (by omega)
  have hC := h
  obtain ⟨hpl, _⟩ := h.here
  have hok1 : (booted cur).Ok (segsN d.now) := ⟨by show cur.serial + 1 ≤ top; omega, by show cur.boot + 1 ≤ top; omega, hok.seq, hok.ne, hok.segs⟩
  have hnew : C (d.now.set (1 - place) (toB (booted cur).bytes)) (booted cur) (1 - place) all := by
    obtain ⟨_, c, hc1, hc2, hc3⟩ := h.here
    refine saved_J hcur.len hpl hc1 (by show c.serial < cur.serial + 1; omega) hok1 hcur.laid hcur.rising hcur.below ?_ hcur.used ?_
    · refine noRec_of_fresh (fun n p hn hp he => ?_) _ _
      have := hcur.old n p hn hp
      have : p.boot = cur.boot + 1 := he
      omega
    · intro n p hn hp
      have := hcur.old n p hn hp
      show p.boot ≤ cur.boot + 1
      omega
  have hfit : fitsC (booted cur) = true := fits_of hok1.serial hok1.boot hok1.seq
  have hopen : openL d = (if (save d ⟨cur, place⟩ (booted cur)).2.2 ≠ 0 then .bad (save d ⟨cur, place⟩ (booted cur)).1 (save d ⟨cur, place⟩ (booted cur)).2.2 else .ok (save d ⟨cur, place⟩ (booted cur)).1 (save d ⟨cur, place⟩ (booted cur)).2.1 all) := by
    obtain ⟨c, all0, rs, e, hJ, rfl, rfl⟩ := h
    have hl := hJ.tail.le
    have hk := known_of c.segs all0 [] hJ.laid hJ.ok.segs.used (by simpa using hJ.rising) hJ.below
    have hf := further_of 17 rs _ _ all0 hJ.tail hJ.e16 (by have := hJ.e16; omega) hq hJ.stop
    unfold openL
    rw [hi.off]
    simp only [Bool.false_eq_true, if_false]
    rw [pick_J hJ]
    simp only
    rw [hk]
    simp only [List.nil_append]
    rw [hf]
    simp only
    rw [if_neg (by show ¬ (top ≤ c.seq + rs.length); have : c.seq + rs.length < top := hq; omega)]
    rfl
  rw [hopen]
  rcases save_spec (l := ⟨cur, place⟩) hi hfit with ⟨e1, hi2, hn, hl2, hle⟩ | ⟨e1, hd, hn, hne⟩
  · refine .inl ⟨_, by rw [if_neg (by rw [e1]; simp), hl2], ⟨hi2, by rw [hn]; exact hnew, ?_⟩, hle, by rw [hn]; simp⟩
    intro n p hn2 hp he
    rw [hn, secOf_set_ne _ _ _ _ (by show 1 - place ≠ n; omega)] at hp
    have := hcur.old n p hn2 hp
    have : p.boot = cur.boot + 1 := he
    omega
  · refine .inr ⟨_, by rw [if_pos (by rw [e1]; simp), e1], hd, hne, ?_, ?_⟩
    · rcases hn with hn | hn <;> rw [hn]
      simp
    · rcases hn with hn | hn
      · rw [hn]; exact .inl hC
      · rw [hn]; exact .inr hnew

/-! a new checkpoint of an open log -/
theorem next_spec {d : Dk} {l : Lg} {all all' : List Rec} {segs : List Seg} (h : I d l all) (hs : l.cp.serial < top) (hb : l.cp.boot ≤ top) (hq : l.cp.seq ≤ top) (hne : segs ≠ []) (hok : SegsOk (segsN d.now) segs) (hl : Laid d.now segs all') (hr : Rising all') (hbl : ∀ r ∈ all', r.seq < l.cp.seq) :
    ((save d l (nextC l segs)).2.2 = 0 ∧ I (save d l (nextC l segs)).1 ⟨nextC l segs, 1 - l.place⟩ all' ∧ (save d l (nextC l segs)).2.1 = ⟨nextC l segs, 1 - l.place⟩ ∧ (save d l (nextC l segs)).1.left ≤ d.left ∧ (save d l (nextC l segs)).1.now.length = d.now.length) ∨
    ((save d l (nextC l segs)).2.2 = 20 ∧ Dead (save d l (nextC l segs)).1 ∧ d.left ≠ 0 ∧ (save d l (nextC l segs)).1.now.length = d.now.length ∧ (C (save d l (nextC l segs)).1.now l.cp l.place all ∨ C (save d l (nextC l segs)).1.now (nextC l segs) (1 - l.place) all')) := by
  obtain ⟨hi, hC, hfr⟩ := h
  have hcur := hC.cur
  obtain ⟨hpl, c, hc1, hc2, hc3⟩ := hC.here
  have hok1 : (nextC l segs).Ok (segsN d.now) := ⟨by show l.cp.serial + 1 ≤ top; omega, hb, hq, hne, hok⟩
  have hnew : C (d.now.set (1 - l.place) (toB (nextC l segs).bytes)) (nextC l segs) (1 - l.place) all' :=
    saved_J hcur.len hpl hc1 (by show c.serial < l.cp.serial + 1; omega) hok1 hl hr hbl (noRec_of_fresh hfr _ _) (hok.used _ (by have := last_split (c := nextC l segs) hne; show lastSeg (nextC l segs) ∈ (nextC l segs).segs; rw [this]; simp)) hcur.old
  rcases save_spec (l := l) hi (fits_of hok1.serial hok1.boot hok1.seq) with ⟨e1, hi2, hn, hl2, hle⟩ | ⟨e1, hd, hn, hne⟩
  · refine .inl ⟨e1, ⟨hi2, by rw [hn]; exact hnew, ?_⟩, hl2, hle, by rw [hn]; simp⟩
    intro n p hn2 hp he
    rw [hn, secOf_set_ne _ _ _ _ (by omega)] at hp
    exact hfr n p hn2 hp he
  · refine .inr ⟨e1, hd, hne, ?_, ?_⟩
    · rcases hn with hn | hn <;> rw [hn]
      simp
    · rcases hn with hn | hn
      · rw [hn]; exact .inl hC
      · rw [hn]; exact .inr hnew

def without (all : List Rec) (id : Nat) : List Rec := all.filter fun r => r.seg != id
theorem Laid.segs {S : List ByteArray} : ∀ {l : List Seg} {x : List Rec}, Laid S l x → ∀ r ∈ x, ∃ s ∈ l, r.seg = s.id
  | [], x, h, r, hr => by have : x = [] := h; subst this; simp at hr
  | s :: t, x, ⟨rs, rest, e, h1, h2⟩, r, hr => by
    subst e
    rcases List.mem_append.1 hr with hr | hr
    · exact ⟨s, by simp, h1.seg r hr⟩
    · obtain ⟨u, hu, he⟩ := h2.segs r hr
      exact ⟨u, by simp [hu], he⟩
theorem laid_erase {S : List ByteArray} {l m : List Seg} {s : Seg} {x : List Rec} (h : Laid S (l ++ s :: m) x) (hd : ((l ++ s :: m).map (·.id)).Nodup) : Laid S (l ++ m) (without x s.id) := by
  obtain ⟨a, b, rfl, h1, h2⟩ := h.split
  obtain ⟨rs, rest, rfl, h3, h4⟩ := h2
  have hd' : (∀ t ∈ l, t.id ≠ s.id) ∧ (∀ t ∈ m, t.id ≠ s.id) := by
    rw [List.map_append, List.map_cons] at hd
    obtain ⟨d1, d2, d3⟩ := List.nodup_append.1 hd
    refine ⟨fun t ht => d3 _ (List.mem_map_of_mem ht) _ (by simp), fun t ht he => ?_⟩
    exact (List.nodup_cons.1 d2).1 (he ▸ List.mem_map_of_mem ht)
  have e1 : a.filter (fun r => r.seg != s.id) = a := List.filter_eq_self.2 fun r hr => by
    obtain ⟨t, ht, he⟩ := h1.segs r hr
    have := hd'.1 t ht
    simp [he, this]
  have e2 : rest.filter (fun r => r.seg != s.id) = rest := List.filter_eq_self.2 fun r hr => by
    obtain ⟨t, ht, he⟩ := h4.segs r hr
    have := hd'.2 t ht
    simp [he, this]
  have e3 : rs.filter (fun r => r.seg != s.id) = [] := List.filter_eq_nil_iff.2 fun r hr => by
    have := h3.seg r hr
    simp [this]
  unfold without
  rw [List.filter_append, List.filter_append, e1, e2, e3, List.nil_append]
  exact h1.append h4
theorem SegsOk.sub {S : Nat} {l m : List Seg} (h : SegsOk S l) (hs : m.Sublist l) : SegsOk S m :=
  ⟨h.nodup.sublist (hs.map _), fun s hs' => h.id s (hs.subset hs'), fun s hs' => h.used s (hs.subset hs')⟩

theorem drop_spec {d : Dk} {l : Lg} {all : List Rec} {id : Int} (h : I d l all) (hs : l.cp.serial < top) (hb : l.cp.boot ≤ top) (hq : l.cp.seq ≤ top) :
    (drop d l id = (d, l, 1)) ∨ ∃ i : Nat, i + 1 < l.cp.segs.length ∧ (∃ s, l.cp.segs[i]? = some s ∧ (s.id : Int) = id) ∧
    ((drop d l id).2.2 = 0 ∧ I (drop d l id).1 ⟨nextC l (l.cp.segs.eraseIdx i), 1 - l.place⟩ (without all id.toNat) ∧ (drop d l id).2.1 = ⟨nextC l (l.cp.segs.eraseIdx i), 1 - l.place⟩ ∧ (drop d l id).1.left ≤ d.left ∧ (drop d l id).1.now.length = d.now.length ∨
     (drop d l id).2.2 = 20 ∧ Dead (drop d l id).1 ∧ d.left ≠ 0 ∧ (drop d l id).1.now.length = d.now.length ∧ (C (drop d l id).1.now l.cp l.place all ∨ C (drop d l id).1.now (nextC l (l.cp.segs.eraseIdx i)) (1 - l.place) (without all id.toNat))) := by
  unfold drop
  cases hf : l.cp.segs.findIdx? (fun s => (s.id : Int) == id) with
  | none => exact .inl rfl
  | some i =>
    simp only
    by_cases hlast : i + 1 = l.cp.segs.length
    · rw [if_pos hlast]; exact .inl rfl
    · rw [if_neg hlast]
      obtain ⟨hi, hp, _⟩ := List.findIdx?_eq_some_iff_getElem.1 hf
      have hid : ((l.cp.segs[i]'hi).id : Int) = id := by simpa using hp
      refine .inr ⟨i, by omega, ⟨_, List.getElem?_eq_getElem hi, hid⟩, ?_⟩
      have hcur := h.c.cur
      have hok := hcur.ok hq
      have hsplit : l.cp.segs = l.cp.segs.take i ++ l.cp.segs[i] :: l.cp.segs.drop (i + 1) := by
        rw [← List.drop_eq_getElem_cons hi, List.take_append_drop]
      have herase : l.cp.segs.eraseIdx i = l.cp.segs.take i ++ l.cp.segs.drop (i + 1) := List.eraseIdx_eq_take_drop_succ _ _
      have hL : Laid d.now (l.cp.segs.eraseIdx i) (without all id.toNat) := by
        rw [herase, show id.toNat = (l.cp.segs[i]'hi).id by omega]
        exact laid_erase (hsplit ▸ hcur.laid) (by rw [← hsplit]; exact hok.segs.nodup)
      exact next_spec h hs hb hq (fun e => by have := congrArg List.length e; rw [List.length_eraseIdx, if_pos hi] at this; simp at this; omega) (hok.segs.sub (List.eraseIdx_sublist _ _)) hL (hcur.rising.filter _) (fun r hr => hcur.below r (List.mem_filter.1 hr).1)

theorem freeId_some {S i : Nat} {segs : List Seg} (h : freeId S segs = some i) : i < S ∧ ∀ s ∈ segs, s.id ≠ i := by
  unfold freeId at h
  have h1 := List.mem_of_find?_eq_some h
  have h2 := List.find?_some h
  refine ⟨by simpa using h1, fun s hs he => ?_⟩
  simp only [Bool.not_eq_true', List.any_eq_false] at h2
  exact h2 s hs (by simpa using he)
theorem openSeg_spec {d : Dk} {l : Lg} {all : List Rec} (h : I d l all) (hs : l.cp.serial < top) (hb : l.cp.boot ≤ top) (hq : l.cp.seq ≤ top) :
    (freeId (segsN d.now) l.cp.segs = none ∧ openSeg d l = (d, l, 21)) ∨ ∃ i, freeId (segsN d.now) l.cp.segs = some i ∧
    ((openSeg d l).2.2 = 0 ∧ I (openSeg d l).1 ⟨nextC l (l.cp.segs ++ [⟨i, 0⟩]), 1 - l.place⟩ all ∧ (openSeg d l).2.1 = ⟨nextC l (l.cp.segs ++ [⟨i, 0⟩]), 1 - l.place⟩ ∧ (openSeg d l).1.left ≤ d.left ∧ (openSeg d l).1.now.length = d.now.length ∨
     (openSeg d l).2.2 = 20 ∧ Dead (openSeg d l).1 ∧ d.left ≠ 0 ∧ (openSeg d l).1.now.length = d.now.length ∧ (C (openSeg d l).1.now l.cp l.place all ∨ C (openSeg d l).1.now (nextC l (l.cp.segs ++ [⟨i, 0⟩])) (1 - l.place) all)) := by
  unfold openSeg
  cases hf : freeId (segsN d.now) l.cp.segs with
  | none => exact .inl ⟨rfl, rfl⟩
  | some i =>
    obtain ⟨h1, h2⟩ := freeId_some hf
    have hcur := h.c.cur
    have hok := (hcur.ok hq).segs
    refine .inr ⟨i, rfl, ?_⟩
    refine next_spec h hs hb hq (by simp) ⟨?_, ?_, ?_⟩ ?_ hcur.rising hcur.below
    · rw [List.map_append, List.nodup_append]
      refine ⟨hok.nodup, by simp, fun a ha b hb' => ?_⟩
      obtain ⟨s, hs', rfl⟩ := List.mem_map.1 ha
      have : b = i := by simpa using hb'
      rw [this]; exact h2 s hs'
    · intro s hs'
      rcases List.mem_append.1 hs' with hs' | hs'
      · exact hok.id s hs'
      · have : s = ⟨i, 0⟩ := by simpa using hs'
        rw [this]; exact h1
    · intro s hs'
      rcases List.mem_append.1 hs' with hs' | hs'
      · exact hok.used s hs'
      · have : s = ⟨i, 0⟩ := by simpa using hs'
        rw [this]; exact Nat.zero_le _
    · have := hcur.laid.append (laid_one.2 (show Tiles (segOf d.now i) i 0 0 [] from rfl) : Laid d.now [⟨i, 0⟩] [])
      simpa using this
end Go.Proofs.YtfiocakhgpdlfaaDoor.Sg

namespace Go.Proofs.YtfiocakhgpdlfaaDoor.Sg

def chunks : Nat → List UInt8 → List (List UInt8)
  | 0, _ => []
  | f + 1, l => l.take 233 :: chunks f (l.drop 233)
theorem chunks_length : ∀ (f : Nat) (l : List UInt8), (chunks f l).length = f
  | 0, _ => rfl
  | f + 1, l => by rw [chunks, List.length_cons, chunks_length f]
theorem chunks_flat : ∀ (f : Nat) (l : List UInt8), l.length ≤ 233 * f → (chunks f l).flatten = l
  | 0, l, h => by have : l = [] := List.length_eq_zero_iff.1 (by omega); rw [this]; rfl
  | f + 1, l, h => by
    rw [chunks, List.flatten_cons, chunks_flat f _ (by rw [List.length_drop]; omega), List.take_append_drop]
theorem chunks_le : ∀ (f : Nat) (l : List UInt8), ∀ b ∈ chunks f l, b.length ≤ 233
  | 0, l, b, h => by simp [chunks] at h
  | f + 1, l, b, h => by
    rw [chunks] at h
    rcases List.mem_cons.1 h with rfl | h
    · exact List.length_take_le _ _
    · exact chunks_le f _ b h

/-- the writes of a record's parts, from the k-th on -/
def partWs (c : Cp) (of : Nat) : Nat → Nat → List UInt8 → List Wr
  | 0, _, _ => []
  | f + 1, k, rest => ⟨2 + (lastSeg c).id * 16 + (lastSeg c).used + k, toB (Part.bytes ⟨c.boot, c.seq, k, of, rest.take 233⟩)⟩ :: partWs c of f (k + 1) (rest.drop 233)
theorem Mix.mono {S S' : List ByteArray} {ws ws' : List Wr} (h : Mix S S' ws) (hs : ∀ w ∈ ws, w ∈ ws') : Mix S S' ws' :=
  ⟨h.1, fun x => (h.2 x).imp id fun ⟨w, hw, h3⟩ => ⟨w, hs w hw, h3⟩⟩
theorem putParts_spec (c : Cp) (of : Nat) (S : List ByteArray) : ∀ (f k : Nat) (rest : List UInt8) (ws : List Wr) (d : Dk), Pending S ws d →
    ((putParts c of f k rest d).2 = 0 ∧ Pending S (ws ++ partWs c of f k rest) (putParts c of f k rest d).1 ∧ (putParts c of f k rest d).1.left ≤ d.left) ∨
    ((putParts c of f k rest d).2 = 20 ∧ Dead (putParts c of f k rest d).1 ∧ Mix S (putParts c of f k rest d).1.now (ws ++ partWs c of f k rest) ∧ d.left ≠ 0)
  | 0, k, rest, ws, d, h => .inl ⟨rfl, by simpa [partWs, putParts] using h, Nat.le_refl _⟩
  | f + 1, k, rest, ws, d, h => by
    rw [putParts, partWs]
    generalize hw : toB (Part.bytes ⟨c.boot, c.seq, k, of, rest.take 233⟩) = s
    generalize hn : 2 + (lastSeg c).id * 16 + (lastSeg c).used + k = n
    rcases write_spec h n s with ⟨e1, hp, hle⟩ | ⟨e1, hd, hm, hne⟩
    · rw [if_neg (by rw [e1]; simp)]
      rcases putParts_spec c of S f (k + 1) (rest.drop 233) _ _ hp with ⟨e2, hp2, hle2⟩ | ⟨e2, hd, hm, hne⟩
      · exact .inl ⟨e2, by simpa using hp2, Nat.le_trans hle2 hle⟩
      · exact .inr ⟨e2, hd, by simpa using hm, by omega⟩
    · rw [if_pos (by rw [e1]; simp)]
      exact .inr ⟨e1, hd, hm.mono fun w hw => by
        rcases List.mem_append.1 hw with hw | hw
        · exact List.mem_append_left _ hw
        · exact List.mem_append_right _ (by have : w = ⟨n, s⟩ := by simpa using hw
                                            rw [this]; simp), hne⟩
theorem partWs_get (c : Cp) (of : Nat) : ∀ (f k : Nat) (rest : List UInt8) (w : Wr), w ∈ partWs c of f k rest → ∃ j, j < f ∧ ∃ b, (chunks f rest)[j]? = some b ∧ w = ⟨2 + (lastSeg c).id * 16 + (lastSeg c).used + (k + j), toB (Part.bytes ⟨c.boot, c.seq, k + j, of, b⟩)⟩
  | 0, k, rest, w, h => by simp [partWs] at h
  | f + 1, k, rest, w, h => by
    rw [partWs] at h
    rcases List.mem_cons.1 h with rfl | h
    · exact ⟨0, by omega, rest.take 233, rfl, rfl⟩
    · obtain ⟨j, hj, b, hb, rfl⟩ := partWs_get c of f (k + 1) _ w h
      exact ⟨j + 1, by omega, b, by rw [chunks, List.getElem?_cons_succ]; exact hb, by rw [show k + 1 + j = k + (j + 1) by omega]⟩
theorem partWs_n (c : Cp) (of : Nat) (f k : Nat) (rest : List UInt8) (w : Wr) (h : w ∈ partWs c of f k rest) : 2 + (lastSeg c).id * 16 + (lastSeg c).used + k ≤ w.n ∧ w.n < 2 + (lastSeg c).id * 16 + (lastSeg c).used + k + f := by
  obtain ⟨j, hj, b, _, rfl⟩ := partWs_get c of f k rest w h
  exact ⟨by show _ ≤ 2 + (lastSeg c).id * 16 + (lastSeg c).used + (k + j); omega, by show 2 + (lastSeg c).id * 16 + (lastSeg c).used + (k + j) < _; omega⟩
theorem sets_out (ws : List Wr) : ∀ (S : List ByteArray) (x : Nat), (∀ w ∈ ws, w.n ≠ x) → (sets S ws)[x]? = S[x]? := by
  induction ws with
  | nil => intro S x _; rfl
  | cons w r ih =>
    intro S x h
    show (sets (S.set w.n w.data) r)[x]? = _
    rw [ih _ x (fun v hv => h v (by simp [hv])), List.getElem?_set, if_neg (h w (by simp))]
theorem sets_parts (c : Cp) (of : Nat) : ∀ (f k : Nat) (rest : List UInt8) (S : List ByteArray) (j : Nat) (b : List UInt8), (chunks f rest)[j]? = some b → 2 + (lastSeg c).id * 16 + (lastSeg c).used + (k + j) < S.length → (sets S (partWs c of f k rest))[2 + (lastSeg c).id * 16 + (lastSeg c).used + (k + j)]? = some (toB (Part.bytes ⟨c.boot, c.seq, k + j, of, b⟩))
  | 0, k, rest, S, j, b, h, _ => by simp [chunks] at h
  | f + 1, k, rest, S, j, b, h, hlt => by
    rw [partWs]
    show (sets (S.set _ _) _)[_]? = _
    cases j with
    | zero =>
      rw [chunks, List.getElem?_cons_zero] at h
      injection h with h
      subst h
      rw [sets_out _ _ _ (fun w hw => by have := (partWs_n _ _ _ _ _ _ hw).1; simp only [Nat.add_zero]; omega)]
      simp only [Nat.add_zero] at hlt ⊢
      rw [List.getElem?_set, if_pos rfl, if_pos hlt]
    | succ j =>
      rw [chunks, List.getElem?_cons_succ] at h
      have := sets_parts c of f (k + 1) (rest.drop 233) (S.set (2 + (lastSeg c).id * 16 + (lastSeg c).used + k) (toB (Part.bytes ⟨c.boot, c.seq, k, of, rest.take 233⟩))) j b h (by rw [List.length_set]; omega)
      rw [show k + 1 + j = k + (j + 1) by omega] at this
      exact this

/-- all parts lie there -/
theorem lays_of {sec : Nat → List UInt8} {boot seq of : Nat} : ∀ (bs : List (List UInt8)) (k x : Nat), (∀ (j : Nat) b, bs[j]? = some b → partOf (sec (x + j)) = some ⟨boot, seq, k + j, of, b⟩) → Lays sec boot seq of k x bs
  | [], _, _, _ => trivial
  | b :: r, k, x, h => ⟨h 0 b rfl, lays_of r (k + 1) (x + 1) fun j c hc => by
      have := h (j + 1) c (by simpa using hc)
      rw [show x + 1 + j = x + (j + 1) by omega, show k + 1 + j = k + (j + 1) by omega]
      exact this⟩

theorem partsN_of (n : Nat) : 1 ≤ partsN n ∧ n ≤ 233 * partsN n := by unfold partsN; omega

/-- the free end of the last segment has turned -/
theorem J.step {S S' : List ByteArray} {c : Cp} {place : Nat} {all rs rs' : List Rec} {e e' : Nat} (h : J S c place all rs e) (hl : S'.length = S.length)
    (hs : ∀ n, n < 2 + (lastSeg c).id * 16 + e ∨ 2 + (lastSeg c).id * 16 + 16 ≤ n → secOf S' n = secOf S n) (ht : Tail (segOf S' (lastSeg c).id) (lastSeg c).id c.boot e' (lastSeg c).used c.seq rs') (he : e' ≤ 16)
    (hst : Stop (segOf S' (lastSeg c).id) c.boot (c.seq + rs'.length) e') (ho : ∀ n p, 2 ≤ n → partOf (secOf S' n) = some p → p.boot ≤ c.boot) : J S' c place all rs' e' := by
  have hN := segsN_len hl
  have hpl := h.pl
  have hle := h.tail.le
  refine ⟨by rw [hl]; exact h.len, h.pl, by rw [hN, hs _ (.inl (by omega))]; exact h.here, fun c' hc' => h.there c' (by rw [hN, hs _ (.inl (by omega))] at hc'; exact hc'), by rw [hN]; exact h.ok, ?_, h.rising, h.below, ht, he, hst, ho⟩
  refine h.laid.congr fun s hs' k hk => ?_
  have hu := h.ok.segs.used s hs'
  by_cases hid : s.id = (lastSeg c).id
  · have hsame : s = lastSeg c := by
      have hsp := last_split h.ok.ne
      rw [hsp] at hs'
      rcases List.mem_append.1 hs' with h1 | h1
      · have hd := h.ok.segs.nodup
        rw [hsp, List.map_append] at hd
        exact absurd hid ((List.nodup_append.1 hd).2.2 _ (List.mem_map_of_mem h1) _ (by simp))
      · simpa using h1
    subst hsame
    exact hs _ (.inl (by omega))
  · refine hs _ ?_
    rcases Nat.lt_or_ge s.id (lastSeg c).id with h1 | h1
    · left; omega
    · right; omega

theorem append2_spec {d : Dk} {l : Lg} {all : List Rec} {body : List UInt8} (h : I d l all) (hq : l.cp.seq < top) (hroom : (lastSeg l.cp).used + partsN body.length ≤ 16) :
    ((append2 d l body).2.2 = .ok ⟨l.cp.seq, (lastSeg l.cp).id, body⟩ ∧ (append2 d l body).2.1 = ⟨setLast l.cp ((lastSeg l.cp).used + partsN body.length) (l.cp.seq + 1), l.place⟩ ∧
      I (append2 d l body).1 (append2 d l body).2.1 (all ++ [⟨l.cp.seq, (lastSeg l.cp).id, body⟩]) ∧ (append2 d l body).1.left ≤ d.left ∧ (append2 d l body).1.now.length = d.now.length) ∨
    ((append2 d l body).2.2 = .bad 20 ∧ Dead (append2 d l body).1 ∧ d.left ≠ 0 ∧ (append2 d l body).1.now.length = d.now.length ∧
      (C (append2 d l body).1.now l.cp l.place all ∨ C (append2 d l body).1.now (setLast l.cp ((lastSeg l.cp).used + partsN body.length) (l.cp.seq + 1)) l.place (all ++ [⟨l.cp.seq, (lastSeg l.cp).id, body⟩]))) := by
  obtain ⟨hi, hC, hfr⟩ := h
  have hcur := hC.cur
  have hok := hcur.ok (Nat.le_of_lt hq)
  obtain ⟨c, all0, rs, e, hJ, hall, hcp⟩ := hC
  obtain ⟨cp, place⟩ := l
  simp only at hcp hfr hcur hok hq hroom hJ ⊢
  have hboot : cp.boot = c.boot := by rw [hcp]; rfl
  have hseq : cp.seq = c.seq + rs.length := by rw [hcp]; rfl
  have hlast : lastSeg cp = ⟨(lastSeg c).id, e⟩ := by rw [hcp]; exact setLast_last _ _ _
  have hid : (lastSeg c).id < segsN d.now := by
    have := hok.segs.id (lastSeg cp) (by rw [last_split hok.ne]; simp)
    rw [hlast] at this; exact this
  have hlen : 2 + (lastSeg c).id * 16 + 16 ≤ d.now.length := by unfold segsN at hid; omega
  obtain ⟨p1, p2⟩ := partsN_of body.length
  generalize hof : partsN body.length = of at *
  rw [hlast] at hroom
  simp only at hroom
  generalize hx : (⟨cp.seq, (lastSeg cp).id, body⟩ : Rec) = x
  have hxs : x.seq = c.seq + rs.length := by rw [← hx]; exact hseq
  have hxg : x.seg = (lastSeg c).id := by rw [← hx]; show (lastSeg cp).id = _; rw [hlast]
  have hxb : x.body = body := by rw [← hx]
  -- which sectors a mix leaves
  have hmix : ∀ S' : List ByteArray, Mix d.now S' (partWs cp of of 0 body) → (∀ n, n < 2 + (lastSeg c).id * 16 + e ∨ 2 + (lastSeg c).id * 16 + 16 ≤ n → secOf S' n = secOf d.now n) ∧
      (∀ j, j < of → secOf S' (2 + (lastSeg c).id * 16 + (e + j)) = secOf d.now (2 + (lastSeg c).id * 16 + (e + j)) ∨ ∃ b, (chunks of body)[j]? = some b ∧ partOf (secOf S' (2 + (lastSeg c).id * 16 + (e + j))) = some ⟨c.boot, c.seq + rs.length, j, of, b⟩) ∧
      (∀ n, 2 + (lastSeg c).id * 16 + (e + of) ≤ n → secOf S' n = secOf d.now n) := by
    intro S' hm
    have hout : ∀ n, n < 2 + (lastSeg c).id * 16 + e ∨ 2 + (lastSeg c).id * 16 + (e + of) ≤ n → secOf S' n = secOf d.now n := fun n hn => by
      rcases hm.2 n with h1 | ⟨w, hw, h2, _, _⟩
      · exact secOf_eq h1
      · have := partWs_n _ _ _ _ _ _ hw
        rw [hlast] at this
        simp only at this
        omega
    refine ⟨fun n hn => hout n (by omega), fun j hj => ?_, fun n hn => hout n (.inr hn)⟩
    rcases hm.2 (2 + (lastSeg c).id * 16 + (e + j)) with h1 | ⟨w, hw, h2, h3, h4⟩
    · exact .inl (secOf_eq h1)
    · obtain ⟨j', hj', b, hb, rfl⟩ := partWs_get _ _ _ _ _ _ hw
      rw [hlast] at h2
      simp only at h2 h4
      obtain rfl : j' = j := by omega
      refine .inr ⟨b, hb, ?_⟩
      rw [secOf_some h4, Nat.zero_add, hboot, hseq]
      exact partOf_bytes _ ⟨hJ.ok.boot, by rw [← hseq]; exact Nat.le_of_lt hq, p1, show of ≤ 16 by omega, hj, chunks_le _ _ _ (List.mem_of_getElem? hb)⟩
  have hold : ∀ S' : List ByteArray, Mix d.now S' (partWs cp of of 0 body) → ∀ n p, 2 ≤ n → partOf (secOf S' n) = some p → p.boot ≤ c.boot ∧ (p.boot = c.boot → p.seq < c.seq + rs.length + 1) := by
    intro S' hm n p hn hp
    obtain ⟨g1, g2, g3⟩ := hmix S' hm
    have hkeep : secOf S' n = secOf d.now n → p.boot ≤ c.boot ∧ (p.boot = c.boot → p.seq < c.seq + rs.length + 1) := fun he => by
      rw [he] at hp
      exact ⟨hJ.old n p hn hp, fun hb => by have := hfr n p hn hp (by rw [hboot]; exact hb); omega⟩
    by_cases h1 : n < 2 + (lastSeg c).id * 16 + e
    · exact hkeep (g1 n (.inl h1))
    · by_cases h2 : 2 + (lastSeg c).id * 16 + (e + of) ≤ n
      · exact hkeep (g3 n h2)
      · obtain ⟨j, rfl⟩ : ∃ j, n = 2 + (lastSeg c).id * 16 + (e + j) := ⟨n - (2 + (lastSeg c).id * 16 + e), by omega⟩
        rcases g2 j (by omega) with h3 | ⟨b, _, h3⟩
        · exact hkeep h3
        · rw [h3] at hp
          injection hp with hp
          subst hp
          exact ⟨Nat.le_refl _, fun _ => Nat.lt_succ_self _⟩
  have htail0 : ∀ S' : List ByteArray, Mix d.now S' (partWs cp of of 0 body) → Tail (segOf S' (lastSeg c).id) (lastSeg c).id c.boot e (lastSeg c).used c.seq rs := fun S' hm =>
    hJ.tail.congr fun y _ hy => (hmix S' hm).1 _ (.inl (by omega))
  have hdone : ∀ S' : List ByteArray, Mix d.now S' (partWs cp of of 0 body) → (∀ (j : Nat) b, (chunks of body)[j]? = some b → partOf (secOf S' (2 + (lastSeg c).id * 16 + (e + j))) = some ⟨c.boot, c.seq + rs.length, j, of, b⟩) →
      C S' (setLast cp ((lastSeg cp).used + of) (cp.seq + 1)) place (all ++ [x]) := by
    intro S' hm hp
    have hR : RecAt (segOf S' (lastSeg c).id) e c.boot (c.seq + rs.length) of x.body := by
      refine ⟨chunks of body, chunks_length _ _, p1, lays_of _ _ _ fun j b hb => ?_, by rw [hxb, chunks_flat _ _ p2]⟩
      rw [Nat.zero_add]; exact hp j b hb
    have hT := (htail0 S' hm).snoc (of := of) hR hxs hxg
    refine ⟨c, all0, rs ++ [x], e + of, hJ.step hm.1 (hmix S' hm).1 hT hroom ?_ (fun n p hn hp => (hold S' hm n p hn hp).1), by rw [hall, List.append_assoc], ?_⟩
    · intro o b hr
      obtain ⟨_, _, _, _, b', hb'⟩ := hr.le
      have := (hold S' hm _ _ (by omega) hb').2 rfl
      simp only [List.length_append, List.length_singleton] at this
      omega
    · rw [hlast, hcp]
      simp [setLast, lastSeg_mk]
      omega
  have hpart : ∀ S' : List ByteArray, Mix d.now S' (partWs cp of of 0 body) → C S' cp place all ∨ C S' (setLast cp ((lastSeg cp).used + of) (cp.seq + 1)) place (all ++ [x]) := by
    intro S' hm
    by_cases hall' : ∀ (j : Nat) b, (chunks of body)[j]? = some b → partOf (secOf S' (2 + (lastSeg c).id * 16 + (e + j))) = some ⟨c.boot, c.seq + rs.length, j, of, b⟩
    · exact .inr (hdone S' hm hall')
    · refine .inl ⟨c, all0, rs, e, hJ.step hm.1 (hmix S' hm).1 (htail0 S' hm) hJ.e16 ?_ (fun n p hn hp => (hold S' hm n p hn hp).1), hall, hcp⟩
      -- a part that has not come through
      obtain ⟨j, hj, hsame⟩ : ∃ j, j < of ∧ secOf S' (2 + (lastSeg c).id * 16 + (e + j)) = secOf d.now (2 + (lastSeg c).id * 16 + (e + j)) := by
        refine Classical.byContradiction fun hno => hall' fun j b hb => ?_
        have hj : j < of := by have := (List.getElem?_eq_some_iff.1 hb).1; rw [chunks_length] at this; exact this
        rcases (hmix S' hm).2.1 j hj with h1 | ⟨b', hb', h2⟩
        · exact absurd ⟨j, hj, h1⟩ hno
        · rw [hb] at hb'; injection hb' with hb'; rw [hb']; exact h2
      intro o b hr
      have hnew : ∀ n p, 2 ≤ n → secOf S' n = secOf d.now n → partOf (secOf S' n) = some p → p.boot = c.boot → p.seq < c.seq + rs.length := fun n p hn he hp hb => by
        rw [he] at hp
        have := hfr n p hn hp (by rw [hboot]; exact hb)
        omega
      obtain ⟨bs, k1, k2, k3, k4⟩ := hr
      obtain ⟨b0, hb0⟩ := k3.at 0 (by omega)
      rcases (hmix S' hm).2.1 0 p1 with h1 | ⟨b', _, h2⟩
      · have := hnew _ _ (by omega) h1 hb0 rfl
        simp at this
      · have hb0' : partOf (secOf S' (2 + (lastSeg c).id * 16 + (e + 0))) = some ⟨c.boot, c.seq + rs.length, 0 + 0, o, b0⟩ := hb0
        rw [h2] at hb0'
        injection hb0' with hb0'
        injection hb0' with _ _ _ ho
        subst ho
        obtain ⟨bj, hbj⟩ := k3.at j (by omega)
        have := hnew _ _ (by omega) hsame hbj rfl
        simp at this
  -- the walk
  unfold append2
  rw [hof]
  simp only
  rcases putParts_spec cp of d.now of 0 body [] d hi.pending with ⟨e1, hp, hle⟩ | ⟨e1, hd, hm, hne⟩
  · rw [if_neg (by rw [e1]; simp)]
    rw [List.nil_append] at hp
    rcases flush_spec hp with ⟨e2, hi2, hn, hle2⟩ | ⟨e2, hd, hm, hne⟩
    · rw [if_neg (by rw [e2]; simp)]
      have hm : Mix d.now (putParts cp of of 0 body d).1.flush.1.now (partWs cp of of 0 body) := by
        rw [hn]
        refine ⟨sets_length _ _, fun n => ?_⟩
        by_cases hw : ∃ w ∈ partWs cp of of 0 body, w.n = n
        · obtain ⟨w, hw, rfl⟩ := hw
          obtain ⟨j, hj, b, hb, rfl⟩ := partWs_get _ _ _ _ _ _ hw
          have hlt : 2 + (lastSeg cp).id * 16 + (lastSeg cp).used + (0 + j) < d.now.length := by rw [hlast]; simp only; omega
          exact .inr ⟨_, hw, rfl, hlt, sets_parts cp of of 0 body d.now j b hb hlt⟩
        · exact .inl (sets_out _ _ _ fun w hw' he => hw ⟨w, hw', he⟩)
      refine .inl ⟨by rw [hx], rfl, ⟨hi2, ?_, fun n p hn2 hp he => ?_⟩, Nat.le_trans hle2 hle, hm.1⟩
      · refine hdone _ hm fun j b hb => ?_
        have hj : j < of := by have := (List.getElem?_eq_some_iff.1 hb).1; rw [chunks_length] at this; exact this
        have hlt : 2 + (lastSeg cp).id * 16 + (lastSeg cp).used + (0 + j) < d.now.length := by rw [hlast]; simp only; omega
        have := sets_parts cp of of 0 body d.now j b hb hlt
        rw [← hn, hlast, hboot, hseq] at this
        simp only [Nat.zero_add] at this
        rw [show 2 + (lastSeg c).id * 16 + (e + j) = 2 + (lastSeg c).id * 16 + e + j by omega, secOf_some this]
        exact partOf_bytes _ ⟨hJ.ok.boot, by rw [← hseq]; exact Nat.le_of_lt hq, p1, show of ≤ 16 by omega, hj, chunks_le _ _ _ (List.mem_of_getElem? hb)⟩
      · have := (hold _ hm n p hn2 hp).2 (by rw [← hboot]; exact he)
        show p.seq < cp.seq + 1
        omega
    · rw [if_pos (by rw [e2]; simp)]
      exact .inr ⟨by rw [e2], hd, by omega, hm.1, hpart _ hm⟩
  · rw [if_pos (by rw [e1]; simp)]
    rw [List.nil_append] at hm
    exact .inr ⟨by rw [e1], hd, hne, hm.1, hpart _ hm⟩

/-- the checkpoint into which a body of n parts goes -/
def cpFor (S : List ByteArray) (c : Cp) (n : Nat) : Option (Cp × Bool) :=
  if (lastSeg c).used + n ≤ 16 then some (c, false) else (freeId (segsN S) c.segs).map fun i => (⟨c.serial + 1, c.boot, c.seq, c.segs ++ [⟨i, 0⟩]⟩, true)
theorem append_spec {d : Dk} {l : Lg} {all : List Rec} {body : List UInt8} (h : I d l all) (hs : l.cp.serial < top) (hb : l.cp.boot ≤ top) (hq : l.cp.seq < top) :
    (16 < partsN body.length ∧ append d l body = (d, l, .bad 2)) ∨ (partsN body.length ≤ 16 ∧
    ((cpFor d.now l.cp (partsN body.length) = none ∧ append d l body = (d, l, .bad 21)) ∨ ∃ c o, cpFor d.now l.cp (partsN body.length) = some (c, o) ∧
    (((append d l body).2.2 = .ok ⟨c.seq, (lastSeg c).id, body⟩ ∧ (append d l body).2.1.cp = setLast c ((lastSeg c).used + partsN body.length) (c.seq + 1) ∧
      I (append d l body).1 (append d l body).2.1 (all ++ [⟨c.seq, (lastSeg c).id, body⟩]) ∧ (append d l body).1.left ≤ d.left ∧ (append d l body).1.now.length = d.now.length) ∨
     ((append d l body).2.2 = .bad 20 ∧ Dead (append d l body).1 ∧ d.left ≠ 0 ∧ (append d l body).1.now.length = d.now.length ∧ ∃ cur place,
       (C (append d l body).1.now cur place all ∨ C (append d l body).1.now cur place (all ++ [⟨c.seq, (lastSeg c).id, body⟩])) ∧ cur.serial ≤ l.cp.serial + 1 ∧ cur.boot = l.cp.boot ∧ cur.seq ≤ l.cp.seq + 1)))) := by
  unfold append
  by_cases h16 : 16 < partsN body.length
  · rw [if_pos h16]; exact .inl ⟨h16, rfl⟩
  rw [if_neg h16, if_neg (by omega)]
  refine .inr ⟨by omega, ?_⟩
  have h3728 : body.length ≤ 3728 := by unfold partsN at h16; omega
  by_cases hf : fits l body.length = true
  · have hroom : (lastSeg l.cp).used + partsN body.length ≤ 16 := by simp [fits] at hf; exact hf.2
    rw [if_pos hf]
    refine .inr ⟨l.cp, false, by rw [cpFor, if_pos hroom], ?_⟩
    rcases append2_spec h hq hroom with ⟨e1, e2, e3, e4, e5⟩ | ⟨e1, e2, e3, e4, e5⟩
    · exact .inl ⟨e1, by rw [e2], e3, e4, e5⟩
    · refine .inr ⟨e1, e2, e3, e4, ?_⟩
      rcases e5 with e5 | e5
      · exact ⟨_, _, .inl e5, by omega, rfl, by omega⟩
      · exact ⟨_, _, .inr e5, by show l.cp.serial ≤ _; omega, rfl, by show l.cp.seq + 1 ≤ _; omega⟩
  · have hroom : ¬ (lastSeg l.cp).used + partsN body.length ≤ 16 := fun h => hf (by simp [fits, h3728, h])
    rw [if_neg hf]
    simp only
    rcases openSeg_spec h hs hb (Nat.le_of_lt hq) with ⟨e1, e2⟩ | ⟨i, e0, ⟨e1, e2, e3, e4, e5⟩ | ⟨e1, e2, e3, e4, e5⟩⟩
    · rw [e2]
      refine .inl ⟨by rw [cpFor, if_neg hroom, e1]; rfl, ?_⟩
      rw [if_pos (by simp)]
    · rw [if_neg (by rw [e1]; simp)]
      refine .inr ⟨_, _, by rw [cpFor, if_neg hroom, e0]; rfl, ?_⟩
      have hl : lastSeg (nextC l (l.cp.segs ++ [⟨i, 0⟩])) = ⟨i, 0⟩ := lastSeg_of rfl
      have hroom' : (lastSeg (nextC l (l.cp.segs ++ [⟨i, 0⟩]))).used + partsN body.length ≤ 16 := by rw [hl]; simp only; omega
      rw [e3]
      rcases append2_spec e2 hq hroom' with ⟨k1, k2, k3, k4, k5⟩ | ⟨k1, k2, k3, k4, k5⟩
      · exact .inl ⟨k1, by rw [k2]; rfl, k3, Nat.le_trans k4 e4, k5.trans e5⟩
      · refine .inr ⟨k1, k2, by omega, k4.trans e5, ?_⟩
        rcases k5 with k5 | k5
        · exact ⟨_, _, .inl k5, by show l.cp.serial + 1 ≤ _; omega, rfl, by show l.cp.seq ≤ _; omega⟩
        · exact ⟨_, _, .inr k5, by show l.cp.serial + 1 ≤ _; omega, rfl, by show l.cp.seq + 1 ≤ _; omega⟩
    · rw [if_pos (by rw [e1]; simp)]
      refine .inr ⟨_, _, by rw [cpFor, if_neg hroom, e0]; rfl, .inr ⟨by rw [e1], e2, e3, e4, ?_⟩⟩
      rcases e5 with e5 | e5
      · exact ⟨_, _, .inl e5, by omega, rfl, by omega⟩
      · exact ⟨_, _, .inl e5, by show l.cp.serial + 1 ≤ _; omega, rfl, by show l.cp.seq ≤ _; omega⟩
end Go.Proofs.YtfiocakhgpdlfaaDoor.Sg

namespace Go.Proofs.YtfiocakhgpdlfaaDoor.Sg

theorem partOf_head {l : List UInt8} (h : l.head? ≠ some 82) : partOf l = none := by
  unfold partOf
  rw [if_pos (.inl h)]
theorem cpOf_head {l : List UInt8} {S : Nat} (h : l.head? ≠ some 67) : cpOf l S = none := by
  unfold cpOf
  rw [if_pos (.inl h)]
theorem full_nil_head : (full ⟨#[]⟩).head? = some 0 := by
  show (List.replicate 256 (0 : UInt8)).head? = some 0
  rfl
theorem format_spec (n : Nat) (hn : 66 ≤ n) : (format (Dk.mk0 n)).2 = 0 ∧ Idle (format (Dk.mk0 n)).1 ∧ (format (Dk.mk0 n)).1.left = 0 ∧ (format (Dk.mk0 n)).1.now.length = n ∧ C (format (Dk.mk0 n)).1.now cp0 0 [] := by
  have hp : Pending (Dk.mk0 n).now [] (Dk.mk0 n) := ⟨rfl, rfl, rfl, rfl⟩
  have hl : (Dk.mk0 n).left = 0 := rfl
  unfold format
  simp only
  rcases write_spec hp 1 ⟨#[]⟩ with ⟨e1, h1, l1⟩ | ⟨_, _, _, h⟩
  · rw [if_neg (by rw [e1]; simp)]
    rcases write_spec h1 0 (toB cp0.bytes) with ⟨e2, h2, l2⟩ | ⟨_, _, _, h⟩
    · rw [if_neg (by rw [e2]; simp)]
      rcases flush_spec h2 with ⟨e3, h3, h4, l3⟩ | ⟨_, _, _, h⟩
      · have e5 : (((Dk.mk0 n).write 1 ⟨#[]⟩).1.write 0 (toB cp0.bytes)).1.flush.1.now = ((List.replicate n ⟨#[]⟩).set 1 ⟨#[]⟩).set 0 (toB cp0.bytes) := by rw [h4]; rfl
        have elen : (((List.replicate n (⟨#[]⟩ : ByteArray)).set 1 ⟨#[]⟩).set 0 (toB cp0.bytes)).length = n := by simp
        refine ⟨e3, h3, by omega, by rw [e5, elen], ?_⟩
        rw [e5]
        have hz : ∀ k, 1 ≤ k → secOf (((List.replicate n (⟨#[]⟩ : ByteArray)).set 1 ⟨#[]⟩).set 0 (toB cp0.bytes)) k = full ⟨#[]⟩ := by
          intro k hk
          rw [secOf_set_ne _ _ _ _ (by omega)]
          by_cases h1 : k = 1
          · subst h1; exact secOf_set _ _ _ (by simp; omega)
          · rw [secOf_set_ne _ _ _ _ (by omega)]
            unfold secOf
            rw [List.getD_eq_getElem?_getD, List.getElem?_replicate]
            split <;> rfl
        have hnone : ∀ k p, 2 ≤ k → partOf (secOf (((List.replicate n (⟨#[]⟩ : ByteArray)).set 1 ⟨#[]⟩).set 0 (toB cp0.bytes)) k) = some p → False := by
          intro k p hk hp
          rw [hz k (by omega), partOf_head (by rw [full_nil_head]; decide)] at hp
          cases hp
        have hN : 4 ≤ segsN (((List.replicate n (⟨#[]⟩ : ByteArray)).set 1 ⟨#[]⟩).set 0 (toB cp0.bytes)) := by unfold segsN; rw [elen]; omega
        have hok : cp0.Ok (segsN (((List.replicate n (⟨#[]⟩ : ByteArray)).set 1 ⟨#[]⟩).set 0 (toB cp0.bytes))) :=
          ⟨by decide, by decide, by decide, by decide, ⟨by decide, fun s hs => by have : s = ⟨0, 0⟩ := by simpa [cp0] using hs
                                                                                  rw [this]; show 0 < _; omega, fun s hs => by have : s = ⟨0, 0⟩ := by simpa [cp0] using hs
                                                                                                                               rw [this]; exact Nat.zero_le _⟩⟩
        refine ⟨cp0, [], [], 0, ⟨by rw [elen]; exact hn, by omega, ?_, ?_, hok, ?_, .nil, by simp, rfl, by omega, ?_, ?_⟩, rfl, rfl⟩
        · rw [secOf_set _ _ _ (by simp; omega)]
          exact cpOf_bytes cp0 _ (segsN_le _) hok
        · intro c' hc'
          rw [hz 1 (by omega), cpOf_head (by rw [full_nil_head]; decide)] at hc'
          cases hc'
        · exact laid_one.2 rfl
        · intro o b hr
          obtain ⟨_, _, _, _, c, hc⟩ := hr.le
          exact (hnone _ _ (by omega) hc).elim
        · intro k p hk hp
          exact (hnone k p hk hp).elim
      · have : ((((Dk.mk0 n).write 1 ⟨#[]⟩).1.write 0 (toB cp0.bytes)).1).left ≤ 0 := by omega
        omega
    · omega
  · omega
theorem Idle.crash {d : Dk} (h : Idle d) (k : Int) : Idle (d.crash k) ∧ (d.crash k).now = d.now ∧ (d.crash k).left = 0 := by
  obtain ⟨h1, h2, h3⟩ := h
  have e : (d.crash k).now = d.now := by show loseL k d.queue 0 d.last = _; rw [h2, h3]; rfl
  exact ⟨⟨rfl, rfl, rfl⟩, e, rfl⟩
theorem Dead.on {d : Dk} (h : Dead d) : Idle d.on ∧ d.on.now = d.now ∧ d.on.left = 0 := ⟨⟨rfl, h.queue, h.last⟩, rfl, rfl⟩
theorem Idle.on {d : Dk} (h : Idle d) : Idle d.on ∧ d.on.now = d.now ∧ d.on.left = 0 := ⟨⟨rfl, h.queue, h.last⟩, rfl, rfl⟩
theorem Idle.cut {d : Dk} (h : Idle d) (n k : Int) : Idle (d.cut n k) ∧ (d.cut n k).now = d.now := ⟨⟨h.off, h.queue, h.last⟩, rfl⟩
theorem I.of_now {d d' : Dk} {l : Lg} {all : List Rec} (h : I d l all) (hi : Idle d') (hn : d'.now = d.now) : I d' l all := ⟨hi, by rw [hn]; exact h.c, by rw [hn]; exact h.fresh⟩
end Go.Proofs.YtfiocakhgpdlfaaDoor.Sg
