/- The functions of package dname: shorts, parseAttribute. -/
import Derived.Test.YtodapmkdmkhhfaaGreatDoorNamD
namespace Go.Proofs.YtodapmkdmkhhfaaGreatDoor
open Go.RowKit

abbrev Short := List UInt8 × List UInt8
def shortC (p : Short) : List Value := [.string ⟨p.1.toArray⟩, .string ⟨p.2.toArray⟩]
def shortTab : List Short := [([67, 78], [50, 46, 53, 46, 52, 46, 51]), ([67], [50, 46, 53, 46, 52, 46, 54]), ([76], [50, 46, 53, 46, 52, 46, 55]), ([79], [50, 46, 53, 46, 52, 46, 49, 48]), ([79, 85], [50, 46, 53, 46, 52, 46, 49, 49]), ([68, 67], [48, 46, 57, 46, 50, 51, 52, 50, 46, 49, 57, 50, 48, 48, 51, 48, 48, 46, 49, 48, 48, 46, 49, 46, 50, 53]), ([69], [49, 46, 50, 46, 56, 52, 48, 46, 49, 49, 51, 53, 52, 57, 46, 49, 46, 57, 46, 49])]
def oidDC : List UInt8 := [48, 46, 57, 46, 50, 51, 52, 50, 46, 49, 57, 50, 48, 48, 51, 48, 48, 46, 49, 48, 48, 46, 49, 46, 50, 53]
def oidE : List UInt8 := [49, 46, 50, 46, 56, 52, 48, 46, 49, 49, 51, 53, 52, 57, 46, 49, 46, 57, 46, 49]
def shortL : List Short → List UInt8 → List UInt8
  | [], id => id
  | p :: r, id => if p.1 = id then p.2 else shortL r id
theorem shortL_len : ∀ (l : List Short) (id : List UInt8), (∀ p ∈ l, p.2.length ≤ 1000) → id.length ≤ 100000 → (shortL l id).length ≤ 100000
  | [], _, _, h => h
  | p :: r, id, hp, h => by
    rw [shortL]
    split
    · have := hp p (by simp); omega
    · exact shortL_len r id (fun q hq => hp q (by simp [hq])) h
/-- a block that was made with a few elements in it, read -/
theorem sl_new {α : Type} {f : α → List Value} {size : Nat} (hf : ∀ x, (f x).length = size) (w : World) (C : Array Value) (t : TypeId) (l : List α) (hC : C.toList = l.flatMap f) (hl : l.length ≤ maxLen) :
    Sl (Pu f) size (w.alloc (.cells C t)) (Lt (w.alloc (.cells C t)).heap.size) l [.slice (some ⟨w.heap.size, 0, none⟩) l.length l.length] := by
  refine ⟨_, _, rfl, Nat.le_refl _, hl, fun _ => ⟨w.heap.size, 0, rfl, by show _ < _; simp, fun i x hx => ?_⟩⟩
  obtain ⟨cs, h1, h2⟩ := news_pu hf w (Lt (w.alloc (.cells C t)).heap.size) C t l hC i x hx
  refine ⟨cs, h1, fun j u hu => ?_⟩
  have := h2 j u hu
  rw [Addr.add_lit] at this
  exact this

theorem cut_v (s : ByteArray) (hs : s.size ≤ 1000000) (c : UInt8) (w : World) (hmx : Mx w) (a b : ByteArray) (f : Bool) (ha : a.data.toList = (Lib.cut s.data.toList [c]).1) (hb : b.data.toList = (Lib.cut s.data.toList [c]).2.1) (hf : (Lib.cut s.data.toList [c]).2.2 = f) :
    Calls Tryz.prog 77 #[.string s, .string ⟨#[c]⟩] w fun e w' => e = .returned (.tuple #[.string a, .string b, .bool f]) ∧ ∃ n, w' = w.drewN n := by
  obtain ⟨m, hm⟩ := hmx
  refine (Tryz.strings_Cut s ⟨#[c]⟩ m w (by omega) hm).mono fun e w' ⟨he, hw⟩ => ⟨?_, hw⟩
  rw [he]
  show Ending.returned (.tuple #[.string ⟨(Lib.cut s.data.toList [c]).1.toArray⟩, .string ⟨(Lib.cut s.data.toList [c]).2.1.toArray⟩, .bool (Lib.cut s.data.toList [c]).2.2]) = _
  rw [← ha, ← hb, hf]
def cutL (w : List UInt8) : List UInt8 × List UInt8 × Bool := Lib.cut w [61]
def kindA (id v : List UInt8) : Int := if id = oidDC ∨ id = oidE then 22 else if validT 19 v = true then 19 else 12
def parseA (w : List UInt8) : Option Attr :=
  if (cutL w).2.2 = false then none else
  (unesc (cutL w).2.1).bind fun v => if validB (shortL shortTab (cutL w).1) = true then some (shortL shortTab (cutL w).1, kindA (shortL shortTab (cutL w).1) v, v) else none
def noAttV : Value := .agg #[.string ⟨#[]⟩, .int .i64 0, .string ⟨#[]⟩]
def parR (o : Option Attr) : Value := match o with | none => .tuple #[noAttV, .bool false] | some a => .tuple #[attV a, .bool true]
end Go.Proofs.YtodapmkdmkhhfaaGreatDoor
