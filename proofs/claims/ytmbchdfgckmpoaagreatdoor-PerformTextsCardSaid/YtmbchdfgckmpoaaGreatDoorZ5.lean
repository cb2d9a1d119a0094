/- The text of notes: plain. -/
import Derived.Test.YtmbchdfgckmpoaaGreatDoorZ2
namespace Go.Proofs.YtmbchdfgckmpoaaGreatDoor
open Go.RowKit

def Bd (z : Int) : Prop := -1000000000000000000 < z ∧ z < 1000000000000000000
structure InR (y : Ply) : Prop where
  o : Bd y.o
  f : Bd y.f
  n : Bd y.n
  v : Bd y.v
  p : Bd y.p
  s : Bd y.s
  e : Bd y.e
def lineL (p : Ply) : List UInt8 := Lib.itoa p.o ++ 32 :: (Lib.itoa p.f ++ 32 :: (Lib.itoa p.n ++ 32 :: (Lib.itoa p.v ++ 32 :: (Lib.itoa p.p ++ 32 :: (Lib.itoa p.s ++ 46 :: (Lib.itoa p.e ++ [10]))))))
def textL (l : List Ply) : List UInt8 := l.flatMap lineL
theorem textL_snoc {l : List Ply} {k : Nat} (h : k < l.length) : textL (l.take (k + 1)) = textL (l.take k) ++ lineL (nth l k) := by
  unfold textL nth
  rw [List.take_add_one, List.getElem?_eq_getElem h, List.getD_eq_getElem?_getD, List.getElem?_eq_getElem h, List.flatMap_append]
  simp
theorem bd_len {z : Int} (h : Bd z) : (Lib.itoa z).length ≤ 21 := itoa_len z (by have := h.1; omega) (by have := h.2; omega)
theorem lineL_len {p : Ply} (h : InR p) : (lineL p).length ≤ 154 := by
  have h0 := bd_len h.o
  have h1 := bd_len h.f
  have h2 := bd_len h.n
  have h3 := bd_len h.v
  have h4 := bd_len h.p
  have h5 := bd_len h.s
  have h6 := bd_len h.e
  unfold lineL
  simp only [List.length_append, List.length_cons, List.length_nil]
  omega
theorem textL_len {l : List Ply} (h : ∀ p ∈ l, InR p) : (textL l).length ≤ l.length * 154 := by
  induction l with
  | nil => simp [textL]
  | cons x l ih =>
    have h1 := lineL_len (h x (by simp))
    have h2 := ih fun p hp => h p (by simp [hp])
    show (lineL x ++ textL l).length ≤ _
    rw [List.length_append, List.length_cons]
    omega
end Go.Proofs.YtmbchdfgckmpoaaGreatDoor
