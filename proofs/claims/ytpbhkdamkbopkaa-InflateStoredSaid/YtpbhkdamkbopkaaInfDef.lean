/- Inflate's steps on plain values: the next bit, what was told, the error. No program. -/
import Derived.Test.YtpbhkdamkbopkaaRefP
namespace Go.Proofs.Ytpbhkdamkbopkaa.Inf
set_option linter.unusedSimpArgs false
set_option linter.unusedVariables false
open Go.RowKit Go.Proofs.Ytpbhkdamkbopkaa.Ext Go.Proofs.Ytpbhkdamkbopkaa.RefP Go.Proofs.YtpbhkdamkbopkaaW.PrintWords Go.Proofs.YtpbhkdamkbopkaaW.PrintLast Go.Proofs.YtpbhkdamkbopkaaW.PrintMore

/-- A reader: the next bit, what was told, the error. -/
structure St where
  p : Int
  o : List Int
  e : Int
def fail (x : St) (e : Int) : St := if x.e = 0 then ⟨x.p, x.o, e⟩ else x
/-- What a number or a symbol makes of a reader. -/
def tak (x : St) (r : Int × Int × Int) : Int × St := if x.e = 0 then (if r.2.2 = 0 then (r.1, ⟨r.2.1, x.o, x.e⟩) else (0, ⟨x.p, x.o, r.2.2⟩)) else (0, x)
def nextL (l : List Int) (s : ByteArray) (p : Int) : Int × Int × Int := (nextOf (newCs l) (newSs l) s p).getD (0, 0, 0)
def bits (s : ByteArray) (n : Int) (x : St) : Int × St := tak x (bitsOf s x.p n)
def next (l : List Int) (s : ByteArray) (x : St) : Int × St := tak x (nextL l s x.p)
def table (l : List Int) (x : St) : St := fail x (errOf l)
/-- The bytes from a place on. -/
def cut (s : ByteArray) (at_ n : Nat) : List Int := (List.range n).map fun i => bt s ((at_ + i : Nat) : Int)
def stored (s : ByteArray) (mx : Int) (x : St) : St :=
  let a := bits s 16 ⟨(x.p + 7) / 8 * 8, x.o, x.e⟩
  let b := bits s 16 a.2
  if b.2.e = 0 then
    (if Go.bits .xor .i64 a.1 b.1 = 65535 then
      (if (b.2.o.length : Int) + a.1 ≤ mx then
        (if a.1 ≤ s.size - b.2.p / 8 then ⟨b.2.p + 8 * a.1, b.2.o ++ cut s (b.2.p / 8).toNat a.1.toNat, b.2.e⟩ else fail b.2 2)
      else fail b.2 7)
    else fail b.2 3)
  else b.2
def lengthen (s : ByteArray) (l : List Int) (y : Int) (x : St) : List Int × St :=
  if x.e = 0 then
    (if y = 16 then (if l.length = 0 then (l, fail x 3) else (l ++ List.replicate (3 + (bits s 2 x).1).toNat (l.getD (l.length - 1) 0), (bits s 2 x).2))
    else if y = 17 then (l ++ List.replicate (3 + (bits s 3 x).1).toNat 0, (bits s 3 x).2)
    else if y = 18 then (l ++ List.replicate (11 + (bits s 7 x).1).toNat 0, (bits s 7 x).2)
    else (l ++ [y], x))
  else (l, x)
/-- The lengths of a code of lengths: the order's places, one by one. -/
def owns (s : ByteArray) : List Nat → List Int → St → List Int × St
  | [], own, x => (own, x)
  | i :: t, own, x => owns s t (own.set i (bits s 3 x).1) (bits s 3 x).2
def order : List Nat := [16, 17, 18, 0, 8, 7, 9, 6, 10, 5, 11, 4, 12, 3, 13, 2, 14, 1, 15]
/-- Lengths, until there are so many. -/
def many (s : ByteArray) (own : List Int) (all : Int) : Nat → List Int → St → List Int × St
  | 0, l, x => (l, x)
  | k + 1, l, x => if (l.length : Int) < all then (if x.e = 0 then many s own all k (lengthen s l (next own s x).1 (next own s x).2).1 (lengthen s l (next own s x).1 (next own s x).2).2 else (l, x)) else (l, x)
/-- How many rounds at most. -/
def left (s : ByteArray) (x : St) : Nat := (8 * (s.size : Int) + 1 - x.p).toNat + 1
def lengths (s : ByteArray) (x : St) : List Int × List Int × St :=
  let a := bits s 5 x
  let b := bits s 5 a.2
  let c := bits s 4 b.2
  let x1 := if c.2.e = 0 ∧ (a.1 + 257 > 286 ∨ b.1 + 1 > 30) then fail c.2 3 else c.2
  let w := owns s (order.take (c.1 + 4).toNat) (List.replicate 19 0) x1
  let x2 := table w.1 w.2
  let z := many s w.1 (a.1 + 257 + (b.1 + 1)) (left s x2) [] x2
  if z.2.e = 0 then
    (if (z.1.length : Int) > a.1 + 257 + (b.1 + 1) ∨ z.1.getD 256 0 = 0 then ([], [], fail z.2 3) else (z.1.take (a.1 + 257).toNat, z.1.drop (a.1 + 257).toNat, z.2))
  else ([], [], z.2)
def lenB : List Int := [3, 4, 5, 6, 7, 8, 9, 10, 11, 13, 15, 17, 19, 23, 27, 31, 35, 43, 51, 59, 67, 83, 99, 115, 131, 163, 195, 227, 258]
def lenM : List Int := [0, 0, 0, 0, 0, 0, 0, 0, 1, 1, 1, 1, 2, 2, 2, 2, 3, 3, 3, 3, 4, 4, 4, 4, 5, 5, 5, 5, 0]
def disB : List Int := [1, 2, 3, 4, 5, 7, 9, 13, 17, 25, 33, 49, 65, 97, 129, 193, 257, 385, 513, 769, 1025, 1537, 2049, 3073, 4097, 6145, 8193, 12289, 16385, 24577]
def disM : List Int := [0, 0, 0, 0, 1, 1, 2, 2, 3, 3, 4, 4, 5, 5, 6, 6, 7, 7, 8, 8, 9, 9, 10, 10, 11, 11, 12, 12, 13, 13]
/-- n bytes again, from d back. -/
def again (o : List Int) (d : Nat) : Nat → List Int
  | 0 => o
  | n + 1 => again o d n ++ [(again o d n).getD ((again o d n).length - d) 0]
/-- A run's step: the length n, the distance d. -/
def copy (mx : Int) (x : St) (n d : Int) : St := if d ≤ x.o.length then (if (x.o.length : Int) + n ≤ mx then ⟨x.p, again x.o d.toNat n.toNat, x.e⟩ else fail x 7) else fail x 3
/-- What a symbol of a run says. -/
def far (s : ByteArray) (mx : Int) (lb : List Int) (x : St) (y : Int) : St :=
  let m := bits s (lenM.getD (y - 257).toNat 0) x
  let d := next lb s m.2
  let x1 := if d.2.e = 0 ∧ d.1 ≥ 30 then fail d.2 3 else d.2
  if x1.e = 0 then
    (let q := bits s (disM.getD d.1.toNat 0) x1
    if q.2.e = 0 then copy mx q.2 (lenB.getD (y - 257).toNat 0 + m.1) (disB.getD d.1.toNat 0 + q.1) else q.2)
  else x1
/-- A symbol's step: does it end? -/
def one (s : ByteArray) (mx : Int) (la lb : List Int) (x : St) : Bool × St :=
  let a := next la s x
  if a.2.e ≠ 0 ∨ a.1 = 256 then (true, a.2)
  else if a.1 < 256 then (if (a.2.o.length : Int) = mx then (true, fail a.2 7) else (false, ⟨a.2.p, a.2.o ++ [a.1 % 256], a.2.e⟩))
  else if a.1 ≥ 286 then (true, fail a.2 3)
  else (false, far s mx lb a.2 a.1)
def codes (s : ByteArray) (mx : Int) (la lb : List Int) : Nat → St → St
  | 0, x => x
  | k + 1, x => if x.e = 0 then (if (one s mx la lb x).1 = true then (one s mx la lb x).2 else codes s mx la lb k (one s mx la lb x).2) else x
def plainA : List Int := (List.range 288).map fun i => if i < 144 then 8 else if i < 256 then 9 else if i < 280 then 7 else 8
def plainB : List Int := List.replicate 32 5
/-- Two tables, and the symbols by them. -/
def both (s : ByteArray) (mx : Int) (la lb : List Int) (x : St) : St := codes s mx la lb (left s x) (table lb (table la x))
def block (s : ByteArray) (mx : Int) (x : St) : Bool × St :=
  let a := bits s 1 x
  let b := bits s 2 a.2
  (decide (a.1 = 1),
    if b.1 = 0 then (if b.2.e = 0 then stored s mx b.2 else b.2)
    else if b.1 = 1 then both s mx plainA plainB b.2
    else if b.1 = 2 then both s mx (lengths s b.2).1 (lengths s b.2).2.1 (lengths s b.2).2.2
    else fail b.2 3)
def blocks (s : ByteArray) (mx : Int) : Nat → St → St
  | 0, x => x
  | k + 1, x => if (block s mx x).1 = true then (block s mx x).2 else if (block s mx x).2.e = 0 then blocks s mx k (block s mx x).2 else (block s mx x).2
def raw (s : ByteArray) (mx : Int) : ByteArray × Int × Int :=
  if mx < 0 ∨ mx > 262144 then (⟨#[]⟩, 0, 1)
  else
    let x := blocks s mx (8 * s.size + 2) ⟨0, [], 0⟩
    if x.e = 0 then (strOfNums x.o, (x.p + 7) / 8, 0) else (⟨#[]⟩, 0, x.e)
end Go.Proofs.Ytpbhkdamkbopkaa.Inf
