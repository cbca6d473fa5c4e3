/- The functions of package subtree: allows, Permits. -/
import Derived.Test.YtmgnihmjjijdoaaGreatDoorGHosI
import Derived.Test.YtmgnihmjjijdoaaGreatDoorGNamY
import Derived.Test.YtmgnihmjjijdoaaGreatDoorGSplit
namespace Go.Proofs.YtmgnihmjjijdoaaGreatDoor
open Go.RowKit
end Go.Proofs.YtmgnihmjjijdoaaGreatDoor
namespace Go.Proofs.YtmgnihmjjijdoaaGreatDoor
open Go.RowKit
def gMail : List (List UInt8) := [[97, 110, 110, 64, 101, 120, 97, 109, 112, 108, 101, 46, 111, 114, 103], [65, 78, 78, 64, 101, 120, 97, 109, 112, 108, 101, 46, 111, 114, 103], [97, 110, 110, 64, 69, 120, 97, 109, 112, 108, 101, 46, 79, 82, 71], [98, 46, 99, 64, 109, 97, 105, 108, 46, 101, 120, 97, 109, 112, 108, 101, 46, 111, 114, 103], [120, 64, 111, 114, 103], [97, 39, 98, 64, 97, 46, 98]]
def gDns : List (List UInt8) := [[101, 120, 97, 109, 112, 108, 101, 46, 111, 114, 103], [119, 119, 119, 46, 101, 120, 97, 109, 112, 108, 101, 46, 111, 114, 103], [87, 87, 87, 46, 69, 120, 97, 109, 112, 108, 101, 46, 111, 114, 103], [42, 46, 101, 120, 97, 109, 112, 108, 101, 46, 111, 114, 103], [97, 46, 98], [111, 114, 103], [109, 121, 101, 120, 97, 109, 112, 108, 101, 46, 111, 114, 103]]
def gAddr : List (List UInt8) := [[10, 0, 0, 1], [10, 1, 2, 3], [192, 168, 1, 7], [32, 1, 13, 184, 0, 0, 0, 0, 0, 0, 0, 0, 0, 0, 0, 1]]
def bMail : List (List UInt8) := [[97, 110, 110, 64, 101, 120, 97, 109, 112, 108, 101, 46, 111, 114, 103], [101, 120, 97, 109, 112, 108, 101, 46, 111, 114, 103], [46, 101, 120, 97, 109, 112, 108, 101, 46, 111, 114, 103], [69, 88, 65, 77, 80, 76, 69, 46, 111, 114, 103], [46, 111, 114, 103], [111, 114, 103], [109, 97, 105, 108, 46, 101, 120, 97, 109, 112, 108, 101, 46, 111, 114, 103]]
def bDns : List (List UInt8) := [[101, 120, 97, 109, 112, 108, 101, 46, 111, 114, 103], [119, 119, 119, 46, 101, 120, 97, 109, 112, 108, 101, 46, 111, 114, 103], [], [69, 120, 97, 109, 112, 108, 101, 46, 79, 82, 71], [111, 114, 103], [98], [97, 46, 98]]
def bAddr : List (List UInt8) := [[10, 0, 0, 0, 255, 0, 0, 0], [10, 1, 0, 0, 255, 255, 0, 0], [0, 0, 0, 0, 0, 0, 0, 0], [10, 1, 2, 3, 255, 255, 255, 255], [32, 1, 0, 0, 0, 0, 0, 0, 0, 0, 0, 0, 0, 0, 0, 0, 255, 255, 0, 0, 0, 0, 0, 0, 0, 0, 0, 0, 0, 0, 0, 0]]
def GoodGen (g : Gen) : Prop := (∃ t ∈ gMail, g = (1, t, [])) ∨ (∃ t ∈ gDns, g = (2, t, [])) ∨ (∃ t ∈ gAddr, g = (7, t, [])) ∨ ∃ n, GoodN n ∧ g = (4, [], n)
def GoodBase (g : Gen) : Prop := (∃ t ∈ bMail, g = (1, t, [])) ∨ (∃ t ∈ bDns, g = (2, t, [])) ∨ (∃ t ∈ bAddr, g = (7, t, [])) ∨ ∃ n, GoodN n ∧ g = (4, [], n)
theorem nil_small : SmallN [] := fun r hr => by cases hr
theorem GoodGen.small {g : Gen} (h : GoodGen g) : SmallG g := by
 have k1 : ∀ t ∈ gMail, t.length ≤ 100000 := by decide
 have k2 : ∀ t ∈ gDns, t.length ≤ 100000 := by decide
 have k3 : ∀ t ∈ gAddr, t.length ≤ 100000 := by decide
 rcases h with ⟨t, ht, rfl⟩ | ⟨t, ht, rfl⟩ | ⟨t, ht, rfl⟩ | ⟨n, hn, rfl⟩
 ·exact ⟨k1 t ht, nil_small⟩
 ·exact ⟨k2 t ht, nil_small⟩
 ·exact ⟨k3 t ht, nil_small⟩
 ·exact ⟨by show ([] : List UInt8).length ≤ 100000; decide, hn.bnd.small (by omega)⟩
theorem GoodBase.small {g : Gen} (h : GoodBase g) : SmallG g := by
 have k1 : ∀ t ∈ bMail, t.length ≤ 100000 := by decide
 have k2 : ∀ t ∈ bDns, t.length ≤ 100000 := by decide
 have k3 : ∀ t ∈ bAddr, t.length ≤ 100000 := by decide
 rcases h with ⟨t, ht, rfl⟩ | ⟨t, ht, rfl⟩ | ⟨t, ht, rfl⟩ | ⟨n, hn, rfl⟩
 ·exact ⟨k1 t ht, nil_small⟩
 ·exact ⟨k2 t ht, nil_small⟩
 ·exact ⟨k3 t ht, nil_small⟩
 ·exact ⟨by show ([] : List UInt8).length ≤ 100000; decide, hn.bnd.small (by omega)⟩
def GenPost (Q : Gen → Prop) (d : Nat) (w : World) (e : Ending) (w' : World) : Prop :=
 ∃ (g : Gen) (t : ByteArray) (A : Option Addr) (c : Nat), Q g ∧ t.data.toList = g.2.1 ∧ e = .returned (.agg #[.int .i64 g.1, .string t, .slice A g.2.2.length c]) ∧ Sl RRdn 1 w' (Btw w.heap.size w'.heap.size) g.2.2 [.slice A g.2.2.length c] ∧ DeckAt w' d ∧ Ex d w w'
theorem strtab_at {d : Nat} {w w1 : World} {C : Array Value} {t : TypeId} {tab : List (List UInt8)} (hex : Ex d (w.alloc (.cells C t)) w1) (hd : d < w.heap.size) (hC : C.toList = tab.flatMap strC) {v : Nat} (hv : v < tab.length) :
  ∃ x : ByteArray, x.data.toList ∈ tab ∧ w1.cell? ⟨w.heap.size, v, none⟩ = some (.string x) := by
 obtain ⟨cs, h1, h2⟩ := news_pu (f := strC) (size := 1) (fun _ => rfl) w No C t tab hC v _ (List.getElem?_eq_getElem hv)
 have hcs : cs = strC tab[v] := h1
 subst hcs
 refine ⟨⟨tab[v].toArray⟩, List.getElem_mem hv, ?_⟩
 have := h2 0 _ rfl
 rw [Addr.add_lit, Nat.zero_add, Nat.mul_one, Nat.add_zero] at this
 exact (hex.cell (p := ⟨w.heap.size, v, none⟩) (by simp) (by show w.heap.size ≠ d; omega)).trans this
def GB (g : Nat) (k : Int) (t : ByteArray) (v : Value) (W : World) : Prop := W.heap[g]? = some (.cells #[.int .i64 k, .string t, v] 26 (0, 0))
theorem GB.facts {g : Nat} {k : Int} {t : ByteArray} {v : Value} {W : World} (h : GB g k t v W) : W.cell? ⟨g, 0, none⟩ = some (.int .i64 k) ∧ W.cell? ⟨g, 1, none⟩ = some (.string t) ∧ W.cell? ⟨g, 2, none⟩ = some v ∧
  W.frozen? ⟨g, 0, none⟩ = false ∧ W.frozen? ⟨g, 1, none⟩ = false ∧ W.frozen? ⟨g, 2, none⟩ = false := by
 unfold GB at h
 simp [World.cell?, World.frozen?, h]
theorem GB.lt {g : Nat} {k : Int} {t : ByteArray} {v : Value} {W : World} (h : GB g k t v W) : g < W.heap.size := (Array.getElem?_eq_some_iff.1 h).1
theorem GB.ex {g d : Nat} {k : Int} {t : ByteArray} {v : Value} {W W' : World} (h : GB g k t v W) (hx : Ex d W W') (hd : g ≠ d) : GB g k t v W' := (hx.at_ h.lt hd).trans h
theorem GB.alloc {g : Nat} {k : Int} {t : ByteArray} {v : Value} {W : World} (h : GB g k t v W) (o : Obj) : GB g k t v (W.alloc o) := (Below.heap_alloc W o g h.lt).trans h
theorem GB.store {g : Nat} {k : Int} {t : ByteArray} {v : Value} {W : World} (h : GB g k t v W) (a : Int) (b : ByteArray) (c : Value) : GB g a b c (((W.setCell ⟨g, 0, none⟩ (.int .i64 a)).setCell ⟨g, 1, none⟩ (.string b)).setCell ⟨g, 2, none⟩ c) := by
 unfold GB at *
 simp [World.setCell, Array.getElem?_modify, h]
theorem sl_st3 {w1 W : World} {g B : Nat} {n : Name} {v a b c : Value} (h : Sl RRdn 1 W (Btw w1.heap.size W.heap.size) n [v]) (hg : g < w1.heap.size) (hB : B ≤ w1.heap.size) :
  Sl RRdn 1 (((W.setCell ⟨g, 0, none⟩ a).setCell ⟨g, 1, none⟩ b).setCell ⟨g, 2, none⟩ c) (Btw B (((W.setCell ⟨g, 0, none⟩ a).setCell ⟨g, 1, none⟩ b).setCell ⟨g, 2, none⟩ c).heap.size) n [v] :=
 (Sl.ok RRdn.ok).mono h (fun k hk => by
  have hne : k ≠ g := by have := hk.1; omega
  rw [Below.heap_setCell _ ⟨g, 2, none⟩ c k hne, Below.heap_setCell _ ⟨g, 1, none⟩ b k hne, Below.heap_setCell _ ⟨g, 0, none⟩ a k hne]) (fun k hk => ⟨by have := hk.1; omega, by have := hk.2; simp; omega⟩)
set_option maxRecDepth 100000 in
set_option maxHeartbeats 8000000 in
theorem General_any (d : Nat) (w : World) (h : DeckAt w d) : Calls Tryz.prog 14 #[.pointer (some ⟨d, 0, none⟩)] w (GenPost GoodGen d w) := by
  have hd := h.lt
  have hwd : w.heap.size ≠ d := by omega
  have HDK0 := hide (fun o => h.alloc o)
  clear h
  go_enter Tryz.func14, Tryz.ntmps14
  go_wp2_with fail
  refine (Next_any d 4 (by omega) (by omega) _ (HDK0.out _)).mono ?_
  rintro e w1 ⟨v1, hv1, rfl, hdk1, hex1⟩
  have HGB := hide (GB.ex (g := w.heap.size) (k := 0) (t := ⟨#[]⟩) (v := .slice none 0 0) (heap_alloc_new w _) hex1 hwd)
  have HEX := hide (((Ex.refl d w).alloc _).trans hex1)
  have HDK := hide hdk1
  have hd1 : d < w1.heap.size := hdk1.lt
  have hgw1 : w.heap.size < w1.heap.size := HGB.out.lt
  clear hdk1 hex1
  match v1, hv1 with
  | 0, _ =>
    go_wp2_with fail
    refine (Next_any d 6 (by omega) (by omega) _ (HDK.out.alloc _)).mono ?_
    rintro e w2 ⟨v2, hv2, rfl, hdk2, hex2⟩
    obtain ⟨x, hxm, c0⟩ := strtab_at (tab := gMail) hex2 hd1 rfl (v := v2) hv2
    have HGB := hide ((HGB.out.alloc _).ex hex2 hwd)
    have HEX := hide ((HEX.out.alloc _).trans hex2)
    have HDK := hide hdk2
    have HXM := hide hxm
    obtain ⟨r0, r1, r2, f0, f1, f2⟩ := HGB.out.facts
    have hv0 : (0 : Int) ≤ (v2 : Int) := by omega
    have hvn : (v2 : Int) < 6 := by omega
    clear hdk2 hex2 hxm
    go_wp2_with fail
    have hst := HGB.out.store 1 x (.slice none 0 0)
    have hx3 := ((HEX.out.setNew (g := w.heap.size) (j := 0) (Nat.le_refl _) (.int .i64 1)).setNew (g := w.heap.size) (j := 1) (Nat.le_refl _) (.string x)).setNew (g := w.heap.size) (j := 2) (Nat.le_refl _) (.slice none 0 0)
    have hd3 := ((HDK.out.set_ (g := w.heap.size) (j := 0) hd (.int .i64 1)).set_ (g := w.heap.size) (j := 1) hd (.string x)).set_ (g := w.heap.size) (j := 2) hd (.slice none 0 0)
    have hsl3 : Sl RRdn 1 (((w2.setCell ⟨w.heap.size, 0, none⟩ (.int .i64 1)).setCell ⟨w.heap.size, 1, none⟩ (.string x)).setCell ⟨w.heap.size, 2, none⟩ (.slice none 0 0)) (Btw w.heap.size (((w2.setCell ⟨w.heap.size, 0, none⟩ (.int .i64 1)).setCell ⟨w.heap.size, 1, none⟩ (.string x)).setCell ⟨w.heap.size, 2, none⟩ (.slice none 0 0)).heap.size) [] [(.slice none 0 0)] := (Sl.nil _ _ _ _)
    obtain ⟨W3, hW3⟩ : ∃ W3, W3 = ((w2.setCell ⟨w.heap.size, 0, none⟩ (.int .i64 1)).setCell ⟨w.heap.size, 1, none⟩ (.string x)).setCell ⟨w.heap.size, 2, none⟩ (.slice none 0 0) := ⟨_, rfl⟩
    rw [← hW3] at hst hx3 hd3 hsl3 ⊢
    obtain ⟨q0, q1, q2, -⟩ := hst.facts
    exact bodyPost_ret (v := .agg #[.int .i64 1, .string x, (.slice none 0 0)]) (by simp [results, Tryz.results14, go_sem, q0, q1, q2]) rfl ⟨(1, x.data.toList, []), x, _, _, (.inl ⟨_, HXM.out, rfl⟩), rfl, rfl, hsl3, hd3, hx3⟩
  | 1, _ =>
    go_wp2_with fail
    refine (Next_any d 7 (by omega) (by omega) _ (HDK.out.alloc _)).mono ?_
    rintro e w2 ⟨v2, hv2, rfl, hdk2, hex2⟩
    obtain ⟨x, hxm, c0⟩ := strtab_at (tab := gDns) hex2 hd1 rfl (v := v2) hv2
    have HGB := hide ((HGB.out.alloc _).ex hex2 hwd)
    have HEX := hide ((HEX.out.alloc _).trans hex2)
    have HDK := hide hdk2
    have HXM := hide hxm
    obtain ⟨r0, r1, r2, f0, f1, f2⟩ := HGB.out.facts
    have hv0 : (0 : Int) ≤ (v2 : Int) := by omega
    have hvn : (v2 : Int) < 7 := by omega
    clear hdk2 hex2 hxm
    go_wp2_with fail
    have hst := HGB.out.store 2 x (.slice none 0 0)
    have hx3 := ((HEX.out.setNew (g := w.heap.size) (j := 0) (Nat.le_refl _) (.int .i64 2)).setNew (g := w.heap.size) (j := 1) (Nat.le_refl _) (.string x)).setNew (g := w.heap.size) (j := 2) (Nat.le_refl _) (.slice none 0 0)
    have hd3 := ((HDK.out.set_ (g := w.heap.size) (j := 0) hd (.int .i64 2)).set_ (g := w.heap.size) (j := 1) hd (.string x)).set_ (g := w.heap.size) (j := 2) hd (.slice none 0 0)
    have hsl3 : Sl RRdn 1 (((w2.setCell ⟨w.heap.size, 0, none⟩ (.int .i64 2)).setCell ⟨w.heap.size, 1, none⟩ (.string x)).setCell ⟨w.heap.size, 2, none⟩ (.slice none 0 0)) (Btw w.heap.size (((w2.setCell ⟨w.heap.size, 0, none⟩ (.int .i64 2)).setCell ⟨w.heap.size, 1, none⟩ (.string x)).setCell ⟨w.heap.size, 2, none⟩ (.slice none 0 0)).heap.size) [] [(.slice none 0 0)] := (Sl.nil _ _ _ _)
    obtain ⟨W3, hW3⟩ : ∃ W3, W3 = ((w2.setCell ⟨w.heap.size, 0, none⟩ (.int .i64 2)).setCell ⟨w.heap.size, 1, none⟩ (.string x)).setCell ⟨w.heap.size, 2, none⟩ (.slice none 0 0) := ⟨_, rfl⟩
    rw [← hW3] at hst hx3 hd3 hsl3 ⊢
    obtain ⟨q0, q1, q2, -⟩ := hst.facts
    exact bodyPost_ret (v := .agg #[.int .i64 2, .string x, (.slice none 0 0)]) (by simp [results, Tryz.results14, go_sem, q0, q1, q2]) rfl ⟨(2, x.data.toList, []), x, _, _, (.inr (.inl ⟨_, HXM.out, rfl⟩)), rfl, rfl, hsl3, hd3, hx3⟩
  | 2, _ =>
    go_wp2_with fail
    refine (Next_any d 4 (by omega) (by omega) _ (HDK.out.alloc _)).mono ?_
    rintro e w2 ⟨v2, hv2, rfl, hdk2, hex2⟩
    obtain ⟨x, hxm, c0⟩ := strtab_at (tab := gAddr) hex2 hd1 rfl (v := v2) hv2
    have HGB := hide ((HGB.out.alloc _).ex hex2 hwd)
    have HEX := hide ((HEX.out.alloc _).trans hex2)
    have HDK := hide hdk2
    have HXM := hide hxm
    obtain ⟨r0, r1, r2, f0, f1, f2⟩ := HGB.out.facts
    have hv0 : (0 : Int) ≤ (v2 : Int) := by omega
    have hvn : (v2 : Int) < 4 := by omega
    clear hdk2 hex2 hxm
    go_wp2_with fail
    have hst := HGB.out.store 7 x (.slice none 0 0)
    have hx3 := ((HEX.out.setNew (g := w.heap.size) (j := 0) (Nat.le_refl _) (.int .i64 7)).setNew (g := w.heap.size) (j := 1) (Nat.le_refl _) (.string x)).setNew (g := w.heap.size) (j := 2) (Nat.le_refl _) (.slice none 0 0)
    have hd3 := ((HDK.out.set_ (g := w.heap.size) (j := 0) hd (.int .i64 7)).set_ (g := w.heap.size) (j := 1) hd (.string x)).set_ (g := w.heap.size) (j := 2) hd (.slice none 0 0)
    have hsl3 : Sl RRdn 1 (((w2.setCell ⟨w.heap.size, 0, none⟩ (.int .i64 7)).setCell ⟨w.heap.size, 1, none⟩ (.string x)).setCell ⟨w.heap.size, 2, none⟩ (.slice none 0 0)) (Btw w.heap.size (((w2.setCell ⟨w.heap.size, 0, none⟩ (.int .i64 7)).setCell ⟨w.heap.size, 1, none⟩ (.string x)).setCell ⟨w.heap.size, 2, none⟩ (.slice none 0 0)).heap.size) [] [(.slice none 0 0)] := (Sl.nil _ _ _ _)
    obtain ⟨W3, hW3⟩ : ∃ W3, W3 = ((w2.setCell ⟨w.heap.size, 0, none⟩ (.int .i64 7)).setCell ⟨w.heap.size, 1, none⟩ (.string x)).setCell ⟨w.heap.size, 2, none⟩ (.slice none 0 0) := ⟨_, rfl⟩
    rw [← hW3] at hst hx3 hd3 hsl3 ⊢
    obtain ⟨q0, q1, q2, -⟩ := hst.facts
    exact bodyPost_ret (v := .agg #[.int .i64 7, .string x, (.slice none 0 0)]) (by simp [results, Tryz.results14, go_sem, q0, q1, q2]) rfl ⟨(7, x.data.toList, []), x, _, _, (.inr (.inr (.inl ⟨_, HXM.out, rfl⟩))), rfl, rfl, hsl3, hd3, hx3⟩
  | 3, _ =>
    go_wp2_with fail
    refine (Name_any d _ HDK.out).mono ?_
    rintro e w2 ⟨n, vn, hgn, rfl, hsl, hdk2, hex2⟩
    obtain ⟨A, c, hvn⟩ := hsl.shape
    subst hvn
    have HGB := hide (HGB.out.ex hex2 hwd)
    have hz := HEX.out.size
    have HEX := hide (HEX.out.trans hex2)
    have HDK := hide hdk2
    have HGN := hide hgn
    have HSL := hide hsl
    have hlt1 := HGB.out.lt
    obtain ⟨r0, r1, r2, f0, f1, f2⟩ := HGB.out.facts
    clear hdk2 hex2 hgn hsl
    have hgw := hgw1
    go_wp2_with fail
    have hst := HGB.out.store 4 ⟨#[]⟩ (.slice A n.length c)
    have hx3 := ((HEX.out.setNew (g := w.heap.size) (j := 0) (Nat.le_refl _) (.int .i64 4)).setNew (g := w.heap.size) (j := 1) (Nat.le_refl _) (.string ⟨#[]⟩)).setNew (g := w.heap.size) (j := 2) (Nat.le_refl _) (.slice A n.length c)
    have hd3 := ((HDK.out.set_ (g := w.heap.size) (j := 0) hd (.int .i64 4)).set_ (g := w.heap.size) (j := 1) hd (.string ⟨#[]⟩)).set_ (g := w.heap.size) (j := 2) hd (.slice A n.length c)
    have hsl3 : Sl RRdn 1 (((w2.setCell ⟨w.heap.size, 0, none⟩ (.int .i64 4)).setCell ⟨w.heap.size, 1, none⟩ (.string ⟨#[]⟩)).setCell ⟨w.heap.size, 2, none⟩ (.slice A n.length c)) (Btw w.heap.size (((w2.setCell ⟨w.heap.size, 0, none⟩ (.int .i64 4)).setCell ⟨w.heap.size, 1, none⟩ (.string ⟨#[]⟩)).setCell ⟨w.heap.size, 2, none⟩ (.slice A n.length c)).heap.size) n [(.slice A n.length c)] := (sl_st3 HSL.out hgw (by omega))
    obtain ⟨W3, hW3⟩ : ∃ W3, W3 = ((w2.setCell ⟨w.heap.size, 0, none⟩ (.int .i64 4)).setCell ⟨w.heap.size, 1, none⟩ (.string ⟨#[]⟩)).setCell ⟨w.heap.size, 2, none⟩ (.slice A n.length c) := ⟨_, rfl⟩
    rw [← hW3] at hst hx3 hd3 hsl3 ⊢
    obtain ⟨q0, q1, q2, -⟩ := hst.facts
    exact bodyPost_ret (v := .agg #[.int .i64 4, .string ⟨#[]⟩, (.slice A n.length c)]) (by simp [results, Tryz.results14, go_sem, q0, q1, q2]) rfl ⟨(4, [], n), ⟨#[]⟩, _, _, (.inr (.inr (.inr ⟨n, HGN.out, rfl⟩))), rfl, rfl, hsl3, hd3, hx3⟩
set_option maxRecDepth 100000 in
set_option maxHeartbeats 8000000 in
theorem Base_any (d : Nat) (w : World) (h : DeckAt w d) : Calls Tryz.prog 15 #[.pointer (some ⟨d, 0, none⟩)] w (GenPost GoodBase d w) := by
  have hd := h.lt
  have hwd : w.heap.size ≠ d := by omega
  have HDK0 := hide (fun o => h.alloc o)
  clear h
  go_enter Tryz.func15, Tryz.ntmps15
  go_wp2_with fail
  refine (Next_any d 4 (by omega) (by omega) _ (HDK0.out _)).mono ?_
  rintro e w1 ⟨v1, hv1, rfl, hdk1, hex1⟩
  have HGB := hide (GB.ex (g := w.heap.size) (k := 0) (t := ⟨#[]⟩) (v := .slice none 0 0) (heap_alloc_new w _) hex1 hwd)
  have HEX := hide (((Ex.refl d w).alloc _).trans hex1)
  have HDK := hide hdk1
  have hd1 : d < w1.heap.size := hdk1.lt
  have hgw1 : w.heap.size < w1.heap.size := HGB.out.lt
  clear hdk1 hex1
  match v1, hv1 with
  | 0, _ =>
    go_wp2_with fail
    refine (Next_any d 7 (by omega) (by omega) _ (HDK.out.alloc _)).mono ?_
    rintro e w2 ⟨v2, hv2, rfl, hdk2, hex2⟩
    obtain ⟨x, hxm, c0⟩ := strtab_at (tab := bMail) hex2 hd1 rfl (v := v2) hv2
    have HGB := hide ((HGB.out.alloc _).ex hex2 hwd)
    have HEX := hide ((HEX.out.alloc _).trans hex2)
    have HDK := hide hdk2
    have HXM := hide hxm
    obtain ⟨r0, r1, r2, f0, f1, f2⟩ := HGB.out.facts
    have hv0 : (0 : Int) ≤ (v2 : Int) := by omega
    have hvn : (v2 : Int) < 7 := by omega
    clear hdk2 hex2 hxm
    go_wp2_with fail
    have hst := HGB.out.store 1 x (.slice none 0 0)
    have hx3 := ((HEX.out.setNew (g := w.heap.size) (j := 0) (Nat.le_refl _) (.int .i64 1)).setNew (g := w.heap.size) (j := 1) (Nat.le_refl _) (.string x)).setNew (g := w.heap.size) (j := 2) (Nat.le_refl _) (.slice none 0 0)
    have hd3 := ((HDK.out.set_ (g := w.heap.size) (j := 0) hd (.int .i64 1)).set_ (g := w.heap.size) (j := 1) hd (.string x)).set_ (g := w.heap.size) (j := 2) hd (.slice none 0 0)
    have hsl3 : Sl RRdn 1 (((w2.setCell ⟨w.heap.size, 0, none⟩ (.int .i64 1)).setCell ⟨w.heap.size, 1, none⟩ (.string x)).setCell ⟨w.heap.size, 2, none⟩ (.slice none 0 0)) (Btw w.heap.size (((w2.setCell ⟨w.heap.size, 0, none⟩ (.int .i64 1)).setCell ⟨w.heap.size, 1, none⟩ (.string x)).setCell ⟨w.heap.size, 2, none⟩ (.slice none 0 0)).heap.size) [] [(.slice none 0 0)] := (Sl.nil _ _ _ _)
    obtain ⟨W3, hW3⟩ : ∃ W3, W3 = ((w2.setCell ⟨w.heap.size, 0, none⟩ (.int .i64 1)).setCell ⟨w.heap.size, 1, none⟩ (.string x)).setCell ⟨w.heap.size, 2, none⟩ (.slice none 0 0) := ⟨_, rfl⟩
    rw [← hW3] at hst hx3 hd3 hsl3 ⊢
    obtain ⟨q0, q1, q2, -⟩ := hst.facts
    exact bodyPost_ret (v := .agg #[.int .i64 1, .string x, (.slice none 0 0)]) (by simp [results, Tryz.results15, go_sem, q0, q1, q2]) rfl ⟨(1, x.data.toList, []), x, _, _, (.inl ⟨_, HXM.out, rfl⟩), rfl, rfl, hsl3, hd3, hx3⟩
  | 1, _ =>
    go_wp2_with fail
    refine (Next_any d 7 (by omega) (by omega) _ (HDK.out.alloc _)).mono ?_
    rintro e w2 ⟨v2, hv2, rfl, hdk2, hex2⟩
    obtain ⟨x, hxm, c0⟩ := strtab_at (tab := bDns) hex2 hd1 rfl (v := v2) hv2
    have HGB := hide ((HGB.out.alloc _).ex hex2 hwd)
    have HEX := hide ((HEX.out.alloc _).trans hex2)
    have HDK := hide hdk2
    have HXM := hide hxm
    obtain ⟨r0, r1, r2, f0, f1, f2⟩ := HGB.out.facts
    have hv0 : (0 : Int) ≤ (v2 : Int) := by omega
    have hvn : (v2 : Int) < 7 := by omega
    clear hdk2 hex2 hxm
    go_wp2_with fail
    have hst := HGB.out.store 2 x (.slice none 0 0)
    have hx3 := ((HEX.out.setNew (g := w.heap.size) (j := 0) (Nat.le_refl _) (.int .i64 2)).setNew (g := w.heap.size) (j := 1) (Nat.le_refl _) (.string x)).setNew (g := w.heap.size) (j := 2) (Nat.le_refl _) (.slice none 0 0)
    have hd3 := ((HDK.out.set_ (g := w.heap.size) (j := 0) hd (.int .i64 2)).set_ (g := w.heap.size) (j := 1) hd (.string x)).set_ (g := w.heap.size) (j := 2) hd (.slice none 0 0)
    have hsl3 : Sl RRdn 1 (((w2.setCell ⟨w.heap.size, 0, none⟩ (.int .i64 2)).setCell ⟨w.heap.size, 1, none⟩ (.string x)).setCell ⟨w.heap.size, 2, none⟩ (.slice none 0 0)) (Btw w.heap.size (((w2.setCell ⟨w.heap.size, 0, none⟩ (.int .i64 2)).setCell ⟨w.heap.size, 1, none⟩ (.string x)).setCell ⟨w.heap.size, 2, none⟩ (.slice none 0 0)).heap.size) [] [(.slice none 0 0)] := (Sl.nil _ _ _ _)
    obtain ⟨W3, hW3⟩ : ∃ W3, W3 = ((w2.setCell ⟨w.heap.size, 0, none⟩ (.int .i64 2)).setCell ⟨w.heap.size, 1, none⟩ (.string x)).setCell ⟨w.heap.size, 2, none⟩ (.slice none 0 0) := ⟨_, rfl⟩
    rw [← hW3] at hst hx3 hd3 hsl3 ⊢
    obtain ⟨q0, q1, q2, -⟩ := hst.facts
    exact bodyPost_ret (v := .agg #[.int .i64 2, .string x, (.slice none 0 0)]) (by simp [results, Tryz.results15, go_sem, q0, q1, q2]) rfl ⟨(2, x.data.toList, []), x, _, _, (.inr (.inl ⟨_, HXM.out, rfl⟩)), rfl, rfl, hsl3, hd3, hx3⟩
  | 2, _ =>
    go_wp2_with fail
    refine (Next_any d 5 (by omega) (by omega) _ (HDK.out.alloc _)).mono ?_
    rintro e w2 ⟨v2, hv2, rfl, hdk2, hex2⟩
    obtain ⟨x, hxm, c0⟩ := strtab_at (tab := bAddr) hex2 hd1 rfl (v := v2) hv2
    have HGB := hide ((HGB.out.alloc _).ex hex2 hwd)
    have HEX := hide ((HEX.out.alloc _).trans hex2)
    have HDK := hide hdk2
    have HXM := hide hxm
    obtain ⟨r0, r1, r2, f0, f1, f2⟩ := HGB.out.facts
    have hv0 : (0 : Int) ≤ (v2 : Int) := by omega
    have hvn : (v2 : Int) < 5 := by omega
    clear hdk2 hex2 hxm
    go_wp2_with fail
    have hst := HGB.out.store 7 x (.slice none 0 0)
    have hx3 := ((HEX.out.setNew (g := w.heap.size) (j := 0) (Nat.le_refl _) (.int .i64 7)).setNew (g := w.heap.size) (j := 1) (Nat.le_refl _) (.string x)).setNew (g := w.heap.size) (j := 2) (Nat.le_refl _) (.slice none 0 0)
    have hd3 := ((HDK.out.set_ (g := w.heap.size) (j := 0) hd (.int .i64 7)).set_ (g := w.heap.size) (j := 1) hd (.string x)).set_ (g := w.heap.size) (j := 2) hd (.slice none 0 0)
    have hsl3 : Sl RRdn 1 (((w2.setCell ⟨w.heap.size, 0, none⟩ (.int .i64 7)).setCell ⟨w.heap.size, 1, none⟩ (.string x)).setCell ⟨w.heap.size, 2, none⟩ (.slice none 0 0)) (Btw w.heap.size (((w2.setCell ⟨w.heap.size, 0, none⟩ (.int .i64 7)).setCell ⟨w.heap.size, 1, none⟩ (.string x)).setCell ⟨w.heap.size, 2, none⟩ (.slice none 0 0)).heap.size) [] [(.slice none 0 0)] := (Sl.nil _ _ _ _)
    obtain ⟨W3, hW3⟩ : ∃ W3, W3 = ((w2.setCell ⟨w.heap.size, 0, none⟩ (.int .i64 7)).setCell ⟨w.heap.size, 1, none⟩ (.string x)).setCell ⟨w.heap.size, 2, none⟩ (.slice none 0 0) := ⟨_, rfl⟩
    rw [← hW3] at hst hx3 hd3 hsl3 ⊢
    obtain ⟨q0, q1, q2, -⟩ := hst.facts
    exact bodyPost_ret (v := .agg #[.int .i64 7, .string x, (.slice none 0 0)]) (by simp [results, Tryz.results15, go_sem, q0, q1, q2]) rfl ⟨(7, x.data.toList, []), x, _, _, (.inr (.inr (.inl ⟨_, HXM.out, rfl⟩))), rfl, rfl, hsl3, hd3, hx3⟩
  | 3, _ =>
    go_wp2_with fail
    refine (Name_any d _ HDK.out).mono ?_
    rintro e w2 ⟨n, vn, hgn, rfl, hsl, hdk2, hex2⟩
    obtain ⟨A, c, hvn⟩ := hsl.shape
    subst hvn
    have HGB := hide (HGB.out.ex hex2 hwd)
    have hz := HEX.out.size
    have HEX := hide (HEX.out.trans hex2)
    have HDK := hide hdk2
    have HGN := hide hgn
    have HSL := hide hsl
    have hlt1 := HGB.out.lt
    obtain ⟨r0, r1, r2, f0, f1, f2⟩ := HGB.out.facts
    clear hdk2 hex2 hgn hsl
    have hgw := hgw1
    go_wp2_with fail
    have hst := HGB.out.store 4 ⟨#[]⟩ (.slice A n.length c)
    have hx3 := ((HEX.out.setNew (g := w.heap.size) (j := 0) (Nat.le_refl _) (.int .i64 4)).setNew (g := w.heap.size) (j := 1) (Nat.le_refl _) (.string ⟨#[]⟩)).setNew (g := w.heap.size) (j := 2) (Nat.le_refl _) (.slice A n.length c)
    have hd3 := ((HDK.out.set_ (g := w.heap.size) (j := 0) hd (.int .i64 4)).set_ (g := w.heap.size) (j := 1) hd (.string ⟨#[]⟩)).set_ (g := w.heap.size) (j := 2) hd (.slice A n.length c)
    have hsl3 : Sl RRdn 1 (((w2.setCell ⟨w.heap.size, 0, none⟩ (.int .i64 4)).setCell ⟨w.heap.size, 1, none⟩ (.string ⟨#[]⟩)).setCell ⟨w.heap.size, 2, none⟩ (.slice A n.length c)) (Btw w.heap.size (((w2.setCell ⟨w.heap.size, 0, none⟩ (.int .i64 4)).setCell ⟨w.heap.size, 1, none⟩ (.string ⟨#[]⟩)).setCell ⟨w.heap.size, 2, none⟩ (.slice A n.length c)).heap.size) n [(.slice A n.length c)] := (sl_st3 HSL.out hgw (by omega))
    obtain ⟨W3, hW3⟩ : ∃ W3, W3 = ((w2.setCell ⟨w.heap.size, 0, none⟩ (.int .i64 4)).setCell ⟨w.heap.size, 1, none⟩ (.string ⟨#[]⟩)).setCell ⟨w.heap.size, 2, none⟩ (.slice A n.length c) := ⟨_, rfl⟩
    rw [← hW3] at hst hx3 hd3 hsl3 ⊢
    obtain ⟨q0, q1, q2, -⟩ := hst.facts
    exact bodyPost_ret (v := .agg #[.int .i64 4, .string ⟨#[]⟩, (.slice A n.length c)]) (by simp [results, Tryz.results15, go_sem, q0, q1, q2]) rfl ⟨(4, [], n), ⟨#[]⟩, _, _, (.inr (.inr (.inr ⟨n, HGN.out, rfl⟩))), rfl, rfl, hsl3, hd3, hx3⟩
end Go.Proofs.YtmgnihmjjijdoaaGreatDoor
namespace Go.Proofs.YtmgnihmjjijdoaaGreatDoor
open Go.RowKit
def CpN (n : Name) : Prop := n.length ≤ 1000 ∧ ∀ r ∈ n, r.length ≤ 1000
theorem GB.below {g : Nat} {k : Int} {t : ByteArray} {v : Value} {W W' : World} (h : GB g k t v W) (hb : Below W.heap.size W W') : GB g k t v W' := (hb.block g h.lt).trans h
theorem GB.store2 {g : Nat} {k : Int} {t : ByteArray} {v : Value} {W : World} (h : GB g k t v W) (c : Value) : GB g k t c (W.setCell ⟨g, 2, none⟩ c) := by
 unfold GB at *
 simp [World.setCell, Array.getElem?_modify, h]
theorem GB.other {g g' j : Nat} {k : Int} {t : ByteArray} {v u : Value} {W : World} (h : GB g k t v W) (hne : g ≠ g') : GB g k t v (W.setCell ⟨g', j, none⟩ u) := (Below.heap_setCell W ⟨g', j, none⟩ u g hne).trans h
end Go.Proofs.YtmgnihmjjijdoaaGreatDoor
namespace Go.Proofs.YtmgnihmjjijdoaaGreatDoor
open Go.RowKit
theorem info_gen : (Tryz.prog.info? 26).map (fun i => (i.zero, i.size, i.bytes)) = some (some (.agg #[.int .i64 0, .string ⟨#[]⟩, .slice none 0 0]), 3, 48) := by kernel_rfl
theorem gen_step {wr W w1 : World} {base : Nat} {S : Nat → Prop} {v : Value} {l : List Gen} {k : Int} {t : ByteArray} {n : Name} {A1 : Option Addr} {c1 : Nat} (hown : Own RGen 3 26 wr base S v l) (hS : ∀ j, S j → base ≤ j ∧ j < wr.heap.size) (hbase : base ≤ wr.heap.size)
    (hbW : Below wr.heap.size wr W) (hb : Below W.heap.size W w1) (h1 : Sl RRdn 1 w1 (Btw W.heap.size w1.heap.size) n [.slice A1 n.length c1]) :
    ∃ S' : Nat → Prop, Own RGen 3 26 (w1.alloc (.cells #[.int .i64 k, .string t, .slice A1 n.length c1] 26)) base S' v l ∧
      (∀ i z, [((k, t.data.toList, n) : Gen)][i]? = some z → ∃ cs, RGen (w1.alloc (.cells #[.int .i64 k, .string t, .slice A1 n.length c1] 26)) S' z cs ∧ ∀ j u, cs[j]? = some u → (w1.alloc (.cells #[.int .i64 k, .string t, .slice A1 n.length c1] 26)).cell? ((⟨w1.heap.size, 0, none⟩ : Addr).add (i * 3 + j)) = some u) ∧
      ∀ j, S' j → base ≤ j ∧ j < (w1.alloc (.cells #[.int .i64 k, .string t, .slice A1 n.length c1] 26)).heap.size := by
  obtain ⟨S', hS'⟩ : ∃ S' : Nat → Prop, S' = fun j => S j ∨ (W.heap.size ≤ j ∧ j < w1.heap.size) := ⟨_, rfl⟩
  have hz := hb.size
  have hzW := hbW.size
  have hS2 : ∀ j, S' j → base ≤ j ∧ j < w1.heap.size := fun j hj => by
    rw [hS'] at hj
    rcases hj with hj | hj
    · have := hS j hj; omega
    · omega
  have hnoS : ∀ g, v.ownBlock = some g → ¬ S' g := fun g hg hh => by
    rw [hS'] at hh
    have hlt := (hown.lt g hg).2
    rcases hh with hh | hh
    · obtain ⟨_, _, h2, _⟩ := hown
      exact h2 g hg hh
    · omega
  have hbb : Below wr.heap.size wr w1 := hbW.trans (hb.mono hbW.size)
  have hownO := ((hown.below RGen.ok (fun j hj => (hS j hj).2) hbb).more RGen.ok (fun j hj => by rw [hS']; exact .inl hj) hnoS)
  have hownA := hownO.alloc RGen.ok (fun j hj => (hS2 j hj).2) (.cells #[.int .i64 k, .string t, .slice A1 n.length c1] 26)
  refine ⟨S', hownA, fun i z hz => ?_, fun j hj => ⟨(hS2 j hj).1, by have := (hS2 j hj).2; simp; omega⟩⟩
  match i, hz with
  | 0, hz =>
    simp at hz; subst hz
    refine ⟨[.int .i64 k, .string t, .slice A1 n.length c1], ⟨_, rfl, (Sl.ok RRdn.ok).mono h1 (fun j hj => Below.heap_alloc _ _ j hj.2) (fun j hj => by rw [hS']; exact .inr hj)⟩, fun j u hu => ?_⟩
    rw [Addr.add_lit, Nat.zero_mul, Nat.zero_add, Nat.zero_add, World.cell?_alloc_new]
    simpa using hu
end Go.Proofs.YtmgnihmjjijdoaaGreatDoor
