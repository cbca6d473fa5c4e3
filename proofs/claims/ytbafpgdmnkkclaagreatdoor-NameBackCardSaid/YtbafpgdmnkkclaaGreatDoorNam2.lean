/- The functions of package dname: shorts, parseAttribute. -/
import Derived.Test.YtbafpgdmnkkclaaGreatDoorNamD
namespace Go.Proofs.YtbafpgdmnkkclaaGreatDoor
open Go.RowKit

abbrev Short := List UInt8 × List UInt8
def shortC (p : Short) : List Value := [.string ⟨p.1.toArray⟩, .string ⟨p.2.toArray⟩]
def shortTab : List Short := [([67, 78], [50, 46, 53, 46, 52, 46, 51]), ([67], [50, 46, 53, 46, 52, 46, 54]), ([76], [50, 46, 53, 46, 52, 46, 55]), ([79], [50, 46, 53, 46, 52, 46, 49, 48]), ([79, 85], [50, 46, 53, 46, 52, 46, 49, 49]), ([68, 67], [48, 46, 57, 46, 50, 51, 52, 50, 46, 49, 57, 50, 48, 48, 51, 48, 48, 46, 49, 48, 48, 46, 49, 46, 50, 53]), ([69], [49, 46, 50, 46, 56, 52, 48, 46, 49, 49, 51, 53, 52, 57, 46, 49, 46, 57, 46, 49])]
def oidDC : List UInt8 := [48, 46, 57, 46, 50, 51, 52, 50, 46, 49, 57, 50, 48, 48, 51, 48, 48, 46, 49, 48, 48, 46, 49, 46, 50, 53]
def oidE : List UInt8 := [49, 46, 50, 46, 56, 52, 48, 46, 49, 49, 51, 53, 52, 57, 46, 49, 46, 57, 46, 49]
def shortL : List Short → List UInt8 → List UInt8
  | [], id => id
  | p :: r, id => if p.1 = id then p.2 else shortL r id
theorem shortL_len : ∀ (l : List Short) (id : List UInt8), (∀ p ∈ l, p.2.length ≤ 1000) → id.length ≤ 100000 → (shortL l id).length ≤ 100000
  | [], _, _, h => h
  | p :: r, id, hp, h => by
    rw [shortL]
    split
    · have := hp p (by simp); omega
    · exact shortL_len r id (fun q hq => hp q (by simp [hq])) h
/-- a block that was made with a few elements in it, read -/
theorem sl_new {α : Type} {f : α → List Value} {size : Nat} (hf : ∀ x, (f x).length = size) (w : World) (C : Array Value) (t : TypeId) (l : List α) (hC : C.toList = l.flatMap f) (hl : l.length ≤ maxLen) :
    Sl (Pu f) size (w.alloc (.cells C t)) (Lt (w.alloc (.cells C t)).heap.size) l [.slice (some ⟨w.heap.size, 0, none⟩) l.length l.length] := by
  refine ⟨_, _, rfl, Nat.le_refl _, hl, fun _ => ⟨w.heap.size, 0, rfl, by show _ < _; simp, fun i x hx => ?_⟩⟩
  obtain ⟨cs, h1, h2⟩ := news_pu hf w (Lt (w.alloc (.cells C t)).heap.size) C t l hC i x hx
  refine ⟨cs, h1, fun j u hu => ?_⟩
  have := h2 j u hu
  rw [Addr.add_lit] at this
  exact this

set_option maxHeartbeats 1000000 in
theorem shorts_any (w : World) : Calls Tryz.prog 49 #[] w fun e w' => ∃ g, e = .returned (.slice (some ⟨g, 0, none⟩) 7 7) ∧ Below w.heap.size w w' ∧ Sl (Pu shortC) 2 w' (Lt w'.heap.size) shortTab [.slice (some ⟨g, 0, none⟩) 7 7] := by
  have hs := fun C t (h : C.toList = shortTab.flatMap shortC) => sl_new (f := shortC) (size := 2) (fun _ => rfl) w C t shortTab h (by simp [shortTab, maxLen])
  have HS := hide hs
  clear hs
  go_enter Tryz.func49, Tryz.ntmps49
  go_wp2_with fail
  go_ret
  exact ⟨_, rfl, (Below.refl _ _).alloc (Nat.le_refl _) _, HS.out _ _ rfl⟩

theorem cut_v (s : ByteArray) (hs : s.size ≤ 1000000) (c : UInt8) (w : World) (hmx : Mx w) (a b : ByteArray) (f : Bool) (ha : a.data.toList = (Lib.cut s.data.toList [c]).1) (hb : b.data.toList = (Lib.cut s.data.toList [c]).2.1) (hf : (Lib.cut s.data.toList [c]).2.2 = f) :
    Calls Tryz.prog 90 #[.string s, .string ⟨#[c]⟩] w fun e w' => e = .returned (.tuple #[.string a, .string b, .bool f]) ∧ ∃ n, w' = w.drewN n := by
  obtain ⟨m, hm⟩ := hmx
  refine (Tryz.strings_Cut s ⟨#[c]⟩ m w (by omega) hm).mono fun e w' ⟨he, hw⟩ => ⟨?_, hw⟩
  rw [he]
  show Ending.returned (.tuple #[.string ⟨(Lib.cut s.data.toList [c]).1.toArray⟩, .string ⟨(Lib.cut s.data.toList [c]).2.1.toArray⟩, .bool (Lib.cut s.data.toList [c]).2.2]) = _
  rw [← ha, ← hb, hf]
def cutL (w : List UInt8) : List UInt8 × List UInt8 × Bool := Lib.cut w [61]
def kindA (id v : List UInt8) : Int := if id = oidDC ∨ id = oidE then 22 else if validT 19 v = true then 19 else 12
def parseA (w : List UInt8) : Option Attr :=
  if (cutL w).2.2 = false then none else
  (unesc (cutL w).2.1).bind fun v => if validB (shortL shortTab (cutL w).1) = true then some (shortL shortTab (cutL w).1, kindA (shortL shortTab (cutL w).1) v, v) else none
def noAttV : Value := .agg #[.string ⟨#[]⟩, .int .i64 0, .string ⟨#[]⟩]
def parR (o : Option Attr) : Value := match o with | none => .tuple #[noAttV, .bool false] | some a => .tuple #[attV a, .bool true]
end Go.Proofs.YtbafpgdmnkkclaaGreatDoor

/- The functions of package dname: parseAttribute. -/
namespace Go.Proofs.YtbafpgdmnkkclaaGreatDoor
open Go.RowKit

def ResAtt (g : Nat) (W : World) : Prop := W.heap[g]? = some (.cells #[.string ⟨#[]⟩, .int .i64 0, .string ⟨#[]⟩] 40 (0, 0))
theorem ResAtt.facts {g : Nat} {W : World} (h : ResAtt g W) : W.cell? ⟨g, 0, none⟩ = some (.string ⟨#[]⟩) ∧ W.cell? ⟨g, 1, none⟩ = some (.int .i64 0) ∧ W.cell? ⟨g, 2, none⟩ = some (.string ⟨#[]⟩) ∧
    W.frozen? ⟨g, 0, none⟩ = false ∧ W.frozen? ⟨g, 1, none⟩ = false ∧ W.frozen? ⟨g, 2, none⟩ = false := by
  unfold ResAtt at h
  simp [World.cell?, World.frozen?, h]
theorem ResAtt.below {g : Nat} {W W' : World} (h : ResAtt g W) (hb : Below W.heap.size W W') : ResAtt g W' := by
  have hlt : g < W.heap.size := (Array.getElem?_eq_some_iff.1 h).1
  exact (hb.block g hlt).trans h
theorem ResAtt.store {g : Nat} {W : World} (h : ResAtt g W) (a b c : Value) :
    (((W.setCell ⟨g, 0, none⟩ a).setCell ⟨g, 1, none⟩ b).setCell ⟨g, 2, none⟩ c).cell? ⟨g, 0, none⟩ = some a ∧ (((W.setCell ⟨g, 0, none⟩ a).setCell ⟨g, 1, none⟩ b).setCell ⟨g, 2, none⟩ c).cell? ⟨g, 1, none⟩ = some b ∧
    (((W.setCell ⟨g, 0, none⟩ a).setCell ⟨g, 1, none⟩ b).setCell ⟨g, 2, none⟩ c).cell? ⟨g, 2, none⟩ = some c := by
  unfold ResAtt at h
  simp [World.cell?, World.setCell, Array.getElem?_modify, h]
theorem below_store3 {B g : Nat} {w W : World} (h : Below B w W) (hg : B ≤ g) (a b c : Value) : Below B w (((W.setCell ⟨g, 0, none⟩ a).setCell ⟨g, 1, none⟩ b).setCell ⟨g, 2, none⟩ c) :=
  ((h.setCell (p := ⟨g, 0, none⟩) hg a).setCell (p := ⟨g, 1, none⟩) hg b).setCell (p := ⟨g, 2, none⟩) hg c
theorem cut_len (s : List UInt8) : (cutL s).1.length ≤ s.length ∧ (cutL s).2.1.length ≤ s.length := by
  unfold cutL Lib.cut
  split
  · simp; omega
  · simp
theorem unesc_len {l o : List UInt8} (h : unesc l = some o) : o.length ≤ l.length := by
  have h1 := (unesc_iff l o).1 h
  have h2 := esc_len o
  rw [h1] at h2
  exact h2



set_option maxRecDepth 100000 in
set_option maxHeartbeats 16000000 in
theorem parseAtt_any (s : ByteArray) (hs : s.size ≤ 100000) (w : World) (hmx : Mx w) :
    Calls Tryz.prog 57 #[.string s] w fun e w' => e = .returned (parR (parseA s.data.toList)) ∧ Below w.heap.size w w' := by
  have HMX := hide hmx
  obtain ⟨r, hr⟩ : ∃ r, parseA s.data.toList = r := ⟨_, rfl⟩
  rw [hr]
  obtain ⟨C, hC⟩ : ∃ C, cutL s.data.toList = C := ⟨_, rfl⟩
  obtain ⟨hl1, hl2⟩ := cut_len s.data.toList
  rw [hC, size_string] at hl1 hl2
  have HR := hide (show r = if C.2.2 = false then none else (unesc C.2.1).bind fun v => if validB (shortL shortTab C.1) = true then some (shortL shortTab C.1, kindA (shortL shortTab C.1) v, v) else none by rw [← hr, parseA, hC])
  obtain ⟨ia, hia⟩ : ∃ ia : ByteArray, ia = ⟨C.1.toArray⟩ := ⟨_, rfl⟩
  obtain ⟨ib, hib⟩ : ∃ ib : ByteArray, ib = ⟨C.2.1.toArray⟩ := ⟨_, rfl⟩
  have hia2 : ia.data.toList = C.1 := by rw [hia]
  have hib2 : ib.data.toList = C.2.1 := by rw [hib]
  have hias : ia.size ≤ 100000 := by rw [← size_string, hia2]; omega
  have hibs : ib.size ≤ 100000 := by rw [← size_string, hib2]; omega
  obtain ⟨f, hf⟩ : ∃ f, C.2.2 = f := ⟨_, rfl⟩
  have CUT := hide (fun W hm => cut_v s (by omega) 61 W hm ia ib f (by rw [hia2]; exact congrArg (·.1) hC.symm) (by rw [hib2]; exact congrArg (·.2.1) hC.symm) (by rw [← hf]; exact congrArg (·.2.2) hC))
  rw [← hia2, ← hib2, hf] at HR
  clear hmx hr hC hl1 hl2 hia hib hia2 hib2 hf
  go_enter Tryz.func57, Tryz.ntmps57
  go_wp2_with fail
  have hres : ResAtt w.heap.size (w.alloc (.cells #[.string ⟨#[]⟩, .int .i64 0, .string ⟨#[]⟩] 40)) := heap_alloc_new w _
  have hb0 : Below w.heap.size w (w.alloc (.cells #[.string ⟨#[]⟩, .int .i64 0, .string ⟨#[]⟩] 40)) := (Below.refl _ _).alloc (Nat.le_refl _) _
  refine (CUT.out _ (HMX.out.below hb0)).mono ?_
  rintro e w1 ⟨rfl, nn, hw1⟩
  have hb1 : Below w.heap.size w w1 := by rw [hw1]; exact below_drewN hb0 nn
  have hr1 : ResAtt w.heap.size w1 := by rw [hw1]; exact hres
  have hg1 : w.heap.size < w1.heap.size := by rw [hw1]; show w.heap.size < (w.alloc _).heap.size; simp
  have HB1 := hide hb1
  have HR1 := hide hr1
  clear hres hb0 hw1 hb1 hr1
  cases f
  · have HN := hide (show r = none by rw [HR.out, if_pos rfl])
    obtain ⟨r0, r1, r2, f0, f1, f2⟩ := HR1.out.facts
    go_wp2_with fail
    obtain ⟨q0, q1, q2⟩ := HR1.out.store (.string ⟨#[]⟩) (.int .i64 0) (.string ⟨#[]⟩)
    have hbz := below_store3 HB1.out (Nat.le_refl w.heap.size) (.string ⟨#[]⟩) (.int .i64 0) (.string ⟨#[]⟩)
    obtain ⟨W3, hW3⟩ : ∃ W3, W3 = ((w1.setCell ⟨w.heap.size, 0, none⟩ (.string ⟨#[]⟩)).setCell ⟨w.heap.size, 1, none⟩ (.int .i64 0)).setCell ⟨w.heap.size, 2, none⟩ (.string ⟨#[]⟩) := ⟨_, rfl⟩
    rw [← hW3] at q0 q1 q2 hbz ⊢
    exact bodyPost_ret (v := .tuple #[.agg #[(.string ⟨#[]⟩), (.int .i64 0), (.string ⟨#[]⟩)], .bool false]) (by simp [results, Tryz.results57, go_sem, q0, q1, q2]) rfl ⟨by rw [HN.out]; rfl, hbz⟩
  · have HR2 := hide (show r = (unesc ib.data.toList).bind fun v => if validB (shortL shortTab ia.data.toList) = true then some (shortL shortTab ia.data.toList, kindA (shortL shortTab ia.data.toList) v, v) else none from HR.out.trans (if_neg (by simp)))
    go_wp2_with fail
    refine (shorts_any _).mono ?_
    rintro e w2 ⟨g, rfl, hb2, hsh⟩
    have HB2 := hide (HB1.out.trans (hb2.mono HB1.out.size))
    have HRA2 := hide (HR1.out.below hb2)
    have HSH := hide hsh
    clear hb2 hsh
    go_wp2_with fail
    go_loopw [4, 22] (fun x4 i wr => ∃ k : Nat, k ≤ 7 ∧ x4 = .string ia ∧ i = .int .i64 k ∧ Below w2.heap.size w2 wr ∧ Hid (shortL shortTab ia.data.toList = shortL (shortTab.drop k) ia.data.toList)) (fun _ i _ => 7 - (intOf i).toNat)
    case atStart => exact ⟨0, by omega, rfl, rfl, Below.refl _ _, hide rfl⟩
    case round =>
      obtain ⟨k, hk, rfl, rfl, hb, H⟩ := hrel
      have HBr := hide (HB2.out.trans (hb.mono HB2.out.size))
      have HRr := hide (HRA2.out.below hb)
      by_cases hlt : k < 7
      · obtain ⟨bk, off, xs, hA, hbS, hx, hcell⟩ := HSH.out.at_ (i := k) hlt
        cases hA
        obtain ⟨p, hp⟩ : ∃ p, shortTab[k]'hlt = p := ⟨_, rfl⟩
        rw [hp] at hx
        have hxs : xs = shortC p := hx
        subst hxs
        have hpl : p.2.length ≤ 1000 := by
          have : ∀ q ∈ shortTab, q.2.length ≤ 1000 := by decide
          exact this p (hp ▸ List.getElem_mem hlt)
        obtain ⟨pw, hpw⟩ : ∃ pw : ByteArray, pw = ⟨p.1.toArray⟩ := ⟨_, rfl⟩
        obtain ⟨id, hid⟩ : ∃ id : ByteArray, id = ⟨p.2.toArray⟩ := ⟨_, rfl⟩
        have hpw2 : p.1 = pw.data.toList := by rw [hpw]
        have hid2 : p.2 = id.data.toList := by rw [hid]
        have c0 := hcell 0 (.string pw) (by rw [hpw]; rfl)
        have c1 := hcell 1 (.string id) (by rw [hid]; rfl)
        have hbS' : g < w2.heap.size := hbS
        have d0 : wr.cell? ⟨g, k * 2, none⟩ = some (.string pw) := (hb.cell hbS').trans (by simpa using c0)
        have d1 : wr.cell? ⟨g, k * 2 + 1, none⟩ = some (.string id) := (hb.cell hbS').trans (by simpa using c1)
        have HX := hide (show shortL shortTab ia.data.toList = if pw.data.toList = ia.data.toList then id.data.toList else shortL (shortTab.drop (k + 1)) ia.data.toList by
          rw [H.out, List.drop_eq_getElem_cons (show k < shortTab.length from hlt), show shortTab[k] = p from hp, shortL, hpw2, hid2])
        rw [hid2, size_string] at hpl
        have hsz := hb.size
        have HB := hide hb
        clear hcell hx hp hpw hid hpw2 hid2 c0 c1 hb
        by_cases heq : pw.toList = ia.toList
        · have heq1 : (pw.toList == ia.toList) = true := by simpa using heq
          have HID := hide (HX.out.trans (if_pos ((str_eq pw ia).1 heq)))
          have HBr := hide (HBr.out.alloc HBr.out.size (.cells #[.string pw, .string id] 83))
          have HRr := hide (HRr.out.below ((Below.refl wr.heap.size wr).alloc (Nat.le_refl _) (.cells #[.string pw, .string id] 83)))
          clear H
          go_wp2_with fail
          refine (Unescape_any ib (by omega) _).mono ?_
          rintro e w5 ⟨rfl, hb5⟩
          have HB5 := hide (HBr.out.trans (hb5.mono HBr.out.size))
          have HR5 := hide (HRr.out.below hb5)
          clear hb5
          obtain ⟨o, ho⟩ : ∃ o, unesc ib.data.toList = o := ⟨_, rfl⟩
          rw [ho]
          have HO := hide ho
          clear ho
          cases o with
          | none =>
            have HN := hide (show r = none by rw [HR2.out, HO.out]; rfl)
            rw [show optR none = .tuple #[.string ⟨#[]⟩, .bool false] from rfl]
            obtain ⟨r0, r1, r2, f0, f1, f2⟩ := HR5.out.facts
            go_wp2_with fail
            obtain ⟨q0, q1, q2⟩ := HR5.out.store (.string ⟨#[]⟩) (.int .i64 0) (.string ⟨#[]⟩)
            have hbz := below_store3 HB5.out (Nat.le_refl w.heap.size) (.string ⟨#[]⟩) (.int .i64 0) (.string ⟨#[]⟩)
            obtain ⟨W3, hW3⟩ : ∃ W3, W3 = ((w5.setCell ⟨w.heap.size, 0, none⟩ (.string ⟨#[]⟩)).setCell ⟨w.heap.size, 1, none⟩ (.int .i64 0)).setCell ⟨w.heap.size, 2, none⟩ (.string ⟨#[]⟩) := ⟨_, rfl⟩
            rw [← hW3] at q0 q1 q2 hbz ⊢
            exact bodyPost_ret (v := .tuple #[.agg #[(.string ⟨#[]⟩), (.int .i64 0), (.string ⟨#[]⟩)], .bool false]) (by simp [results, Tryz.results57, go_sem, q0, q1, q2]) rfl ⟨by rw [HN.out]; rfl, hbz⟩
          | some v =>
            have hvl := unesc_len HO.out
            rw [show optR (some v) = .tuple #[.string ⟨v.toArray⟩, .bool true] from rfl]
            obtain ⟨va, hva⟩ : ∃ va : ByteArray, va = ⟨v.toArray⟩ := ⟨_, rfl⟩
            have hva2 : v = va.data.toList := by rw [hva]
            rw [hva2, size_string, size_string] at hvl
            have HVA := hide hva2
            rw [← hva]
            obtain ⟨p, hp⟩ : ∃ p, validB id.data.toList = p := ⟨_, rfl⟩
            have HP := hide hp
            clear hva hva2 hp
            go_wp2_with fail
            refine (oid_v id (by omega) p HP.out _ (HMX.out.below HB5.out)).mono ?_
            rintro e w6 ⟨rfl, hb6⟩
            have HB6 := hide (HB5.out.trans (hb6.mono HB5.out.size))
            have HR6 := hide (HR5.out.below hb6)
            clear hb6
            cases p
            · have HN := hide (show r = none by rw [HR2.out, HO.out, HID.out, Option.bind_some, HP.out]; rfl)
              obtain ⟨r0, r1, r2, f0, f1, f2⟩ := HR6.out.facts
              go_wp2_with fail
              obtain ⟨q0, q1, q2⟩ := HR6.out.store (.string ⟨#[]⟩) (.int .i64 0) (.string ⟨#[]⟩)
              have hbz := below_store3 HB6.out (Nat.le_refl w.heap.size) (.string ⟨#[]⟩) (.int .i64 0) (.string ⟨#[]⟩)
              obtain ⟨W3, hW3⟩ : ∃ W3, W3 = ((w6.setCell ⟨w.heap.size, 0, none⟩ (.string ⟨#[]⟩)).setCell ⟨w.heap.size, 1, none⟩ (.int .i64 0)).setCell ⟨w.heap.size, 2, none⟩ (.string ⟨#[]⟩) := ⟨_, rfl⟩
              rw [← hW3] at q0 q1 q2 hbz ⊢
              exact bodyPost_ret (v := .tuple #[.agg #[(.string ⟨#[]⟩), (.int .i64 0), (.string ⟨#[]⟩)], .bool false]) (by simp [results, Tryz.results57, go_sem, q0, q1, q2]) rfl ⟨by rw [HN.out]; rfl, hbz⟩
            · have HS := hide (show r = some (id.data.toList, kindA id.data.toList v, v) by rw [HR2.out, HO.out, HID.out, Option.bind_some, HP.out, if_pos rfl])
              rw [HVA.out] at HS
              by_cases h1 : id.data.toList = oidDC
              · have t1 : (id.toList == oidDC) = true := by rw [ByteArray.toList_eq, h1]; rfl
                have t2 : id.toList = oidDC := by rw [ByteArray.toList_eq, h1]
                have HK := hide (show kindA id.data.toList va.data.toList = 22 by rw [kindA, if_pos (.inl h1)])
                clear h1
                unfold oidDC at t1 t2
                obtain ⟨r0, r1, r2, f0, f1, f2⟩ := HR6.out.facts
                go_wp2_with fail
                obtain ⟨q0, q1, q2⟩ := HR6.out.store (.string id) (.int .i64 22) (.string va)
                have hbz := below_store3 HB6.out (Nat.le_refl w.heap.size) (.string id) (.int .i64 22) (.string va)
                obtain ⟨W3, hW3⟩ : ∃ W3, W3 = ((w6.setCell ⟨w.heap.size, 0, none⟩ (.string id)).setCell ⟨w.heap.size, 1, none⟩ (.int .i64 22)).setCell ⟨w.heap.size, 2, none⟩ (.string va) := ⟨_, rfl⟩
                rw [← hW3] at q0 q1 q2 hbz ⊢
                exact bodyPost_ret (v := .tuple #[.agg #[(.string id), (.int .i64 22), (.string va)], .bool true]) (by simp [results, Tryz.results57, go_sem, q0, q1, q2]) rfl ⟨by rw [HS.out, HK.out]; rfl, hbz⟩
              · have t1 : (id.toList == oidDC) = false := by rw [ByteArray.toList_eq]; simpa using h1
                have t2 : ¬ id.toList = oidDC := by rw [ByteArray.toList_eq]; exact h1
                by_cases h2 : id.data.toList = oidE
                · have t3 : (id.toList == oidE) = true := by rw [ByteArray.toList_eq, h2]; rfl
                  have t4 : id.toList = oidE := by rw [ByteArray.toList_eq, h2]
                  have HK := hide (show kindA id.data.toList va.data.toList = 22 by rw [kindA, if_pos (.inr h2)])
                  clear h1 h2 t1 t2
                  unfold oidE at t3 t4
                  obtain ⟨r0, r1, r2, f0, f1, f2⟩ := HR6.out.facts
                  go_wp2_with fail
                  obtain ⟨q0, q1, q2⟩ := HR6.out.store (.string id) (.int .i64 22) (.string va)
                  have hbz := below_store3 HB6.out (Nat.le_refl w.heap.size) (.string id) (.int .i64 22) (.string va)
                  obtain ⟨W3, hW3⟩ : ∃ W3, W3 = ((w6.setCell ⟨w.heap.size, 0, none⟩ (.string id)).setCell ⟨w.heap.size, 1, none⟩ (.int .i64 22)).setCell ⟨w.heap.size, 2, none⟩ (.string va) := ⟨_, rfl⟩
                  rw [← hW3] at q0 q1 q2 hbz ⊢
                  exact bodyPost_ret (v := .tuple #[.agg #[(.string id), (.int .i64 22), (.string va)], .bool true]) (by simp [results, Tryz.results57, go_sem, q0, q1, q2]) rfl ⟨by rw [HS.out, HK.out]; rfl, hbz⟩
                · have t3 : (id.toList == oidE) = false := by rw [ByteArray.toList_eq]; simpa using h2
                  have t4 : ¬ id.toList = oidE := by rw [ByteArray.toList_eq]; exact h2
                  obtain ⟨q, hq⟩ : ∃ q, validT 19 va.data.toList = q := ⟨_, rfl⟩
                  have HK := hide (show kindA id.data.toList va.data.toList = if q = true then 19 else 12 by rw [kindA, if_neg (by rintro (h | h); exact h1 h; exact h2 h), hq])
                  have HQ := hide hq
                  clear h1 h2 hq
                  unfold oidDC at t1 t2
                  unfold oidE at t3 t4
                  go_wp2_with fail
                  refine (text_v 19 va (by omega) q HQ.out _).mono ?_
                  rintro e w7 ⟨rfl, hb7⟩
                  have HB7 := hide (HB6.out.trans (hb7.mono HB6.out.size))
                  have HR7 := hide (HR6.out.below hb7)
                  clear hb7
                  cases q
                  · obtain ⟨r0, r1, r2, f0, f1, f2⟩ := HR7.out.facts
                    go_wp2_with fail
                    obtain ⟨q0, q1, q2⟩ := HR7.out.store (.string id) (.int .i64 12) (.string va)
                    have hbz := below_store3 HB7.out (Nat.le_refl w.heap.size) (.string id) (.int .i64 12) (.string va)
                    obtain ⟨W3, hW3⟩ : ∃ W3, W3 = ((w7.setCell ⟨w.heap.size, 0, none⟩ (.string id)).setCell ⟨w.heap.size, 1, none⟩ (.int .i64 12)).setCell ⟨w.heap.size, 2, none⟩ (.string va) := ⟨_, rfl⟩
                    rw [← hW3] at q0 q1 q2 hbz ⊢
                    exact bodyPost_ret (v := .tuple #[.agg #[(.string id), (.int .i64 12), (.string va)], .bool true]) (by simp [results, Tryz.results57, go_sem, q0, q1, q2]) rfl ⟨by rw [HS.out, HK.out]; rfl, hbz⟩
                  · obtain ⟨r0, r1, r2, f0, f1, f2⟩ := HR7.out.facts
                    go_wp2_with fail
                    obtain ⟨q0, q1, q2⟩ := HR7.out.store (.string id) (.int .i64 19) (.string va)
                    have hbz := below_store3 HB7.out (Nat.le_refl w.heap.size) (.string id) (.int .i64 19) (.string va)
                    obtain ⟨W3, hW3⟩ : ∃ W3, W3 = ((w7.setCell ⟨w.heap.size, 0, none⟩ (.string id)).setCell ⟨w.heap.size, 1, none⟩ (.int .i64 19)).setCell ⟨w.heap.size, 2, none⟩ (.string va) := ⟨_, rfl⟩
                    rw [← hW3] at q0 q1 q2 hbz ⊢
                    exact bodyPost_ret (v := .tuple #[.agg #[(.string id), (.int .i64 19), (.string va)], .bool true]) (by simp [results, Tryz.results57, go_sem, q0, q1, q2]) rfl ⟨by rw [HS.out, HK.out]; rfl, hbz⟩
        · have heq1 : (pw.toList == ia.toList) = false := by simpa using heq
          have HY := hide (HX.out.trans (if_neg (fun e => heq ((str_eq pw ia).2 e))))
          go_wp2_with fail
          go_roundw
          case rel => exact ⟨k + 1, by omega, rfl, by go_num, HB.out.alloc hsz _, HY⟩
          case measure => simp [intOf]; omega
      · have HID := hide (show shortL shortTab ia.data.toList = ia.data.toList by rw [H.out, List.drop_of_length_le (by show 7 ≤ k; omega)]; rfl)
        obtain ⟨id, rfl⟩ : ∃ id, id = ia := ⟨_, rfl⟩
        clear hb H
        go_wp2_with fail
        refine (Unescape_any ib (by omega) _).mono ?_
        rintro e w5 ⟨rfl, hb5⟩
        have HB5 := hide (HBr.out.trans (hb5.mono HBr.out.size))
        have HR5 := hide (HRr.out.below hb5)
        clear hb5
        obtain ⟨o, ho⟩ : ∃ o, unesc ib.data.toList = o := ⟨_, rfl⟩
        rw [ho]
        have HO := hide ho
        clear ho
        cases o with
        | none =>
          have HN := hide (show r = none by rw [HR2.out, HO.out]; rfl)
          rw [show optR none = .tuple #[.string ⟨#[]⟩, .bool false] from rfl]
          obtain ⟨r0, r1, r2, f0, f1, f2⟩ := HR5.out.facts
          go_wp2_with fail
          obtain ⟨q0, q1, q2⟩ := HR5.out.store (.string ⟨#[]⟩) (.int .i64 0) (.string ⟨#[]⟩)
          have hbz := below_store3 HB5.out (Nat.le_refl w.heap.size) (.string ⟨#[]⟩) (.int .i64 0) (.string ⟨#[]⟩)
          obtain ⟨W3, hW3⟩ : ∃ W3, W3 = ((w5.setCell ⟨w.heap.size, 0, none⟩ (.string ⟨#[]⟩)).setCell ⟨w.heap.size, 1, none⟩ (.int .i64 0)).setCell ⟨w.heap.size, 2, none⟩ (.string ⟨#[]⟩) := ⟨_, rfl⟩
          rw [← hW3] at q0 q1 q2 hbz ⊢
          exact bodyPost_ret (v := .tuple #[.agg #[(.string ⟨#[]⟩), (.int .i64 0), (.string ⟨#[]⟩)], .bool false]) (by simp [results, Tryz.results57, go_sem, q0, q1, q2]) rfl ⟨by rw [HN.out]; rfl, hbz⟩
        | some v =>
          have hvl := unesc_len HO.out
          rw [show optR (some v) = .tuple #[.string ⟨v.toArray⟩, .bool true] from rfl]
          obtain ⟨va, hva⟩ : ∃ va : ByteArray, va = ⟨v.toArray⟩ := ⟨_, rfl⟩
          have hva2 : v = va.data.toList := by rw [hva]
          rw [hva2, size_string, size_string] at hvl
          have HVA := hide hva2
          rw [← hva]
          obtain ⟨p, hp⟩ : ∃ p, validB id.data.toList = p := ⟨_, rfl⟩
          have HP := hide hp
          clear hva hva2 hp
          go_wp2_with fail
          refine (oid_v id (by omega) p HP.out _ (HMX.out.below HB5.out)).mono ?_
          rintro e w6 ⟨rfl, hb6⟩
          have HB6 := hide (HB5.out.trans (hb6.mono HB5.out.size))
          have HR6 := hide (HR5.out.below hb6)
          clear hb6
          cases p
          · have HN := hide (show r = none by rw [HR2.out, HO.out, HID.out, Option.bind_some, HP.out]; rfl)
            obtain ⟨r0, r1, r2, f0, f1, f2⟩ := HR6.out.facts
            go_wp2_with fail
            obtain ⟨q0, q1, q2⟩ := HR6.out.store (.string ⟨#[]⟩) (.int .i64 0) (.string ⟨#[]⟩)
            have hbz := below_store3 HB6.out (Nat.le_refl w.heap.size) (.string ⟨#[]⟩) (.int .i64 0) (.string ⟨#[]⟩)
            obtain ⟨W3, hW3⟩ : ∃ W3, W3 = ((w6.setCell ⟨w.heap.size, 0, none⟩ (.string ⟨#[]⟩)).setCell ⟨w.heap.size, 1, none⟩ (.int .i64 0)).setCell ⟨w.heap.size, 2, none⟩ (.string ⟨#[]⟩) := ⟨_, rfl⟩
            rw [← hW3] at q0 q1 q2 hbz ⊢
            exact bodyPost_ret (v := .tuple #[.agg #[(.string ⟨#[]⟩), (.int .i64 0), (.string ⟨#[]⟩)], .bool false]) (by simp [results, Tryz.results57, go_sem, q0, q1, q2]) rfl ⟨by rw [HN.out]; rfl, hbz⟩
          · have HS := hide (show r = some (id.data.toList, kindA id.data.toList v, v) by rw [HR2.out, HO.out, HID.out, Option.bind_some, HP.out, if_pos rfl])
            rw [HVA.out] at HS
            by_cases h1 : id.data.toList = oidDC
            · have t1 : (id.toList == oidDC) = true := by rw [ByteArray.toList_eq, h1]; rfl
              have t2 : id.toList = oidDC := by rw [ByteArray.toList_eq, h1]
              have HK := hide (show kindA id.data.toList va.data.toList = 22 by rw [kindA, if_pos (.inl h1)])
              clear h1
              unfold oidDC at t1 t2
              obtain ⟨r0, r1, r2, f0, f1, f2⟩ := HR6.out.facts
              go_wp2_with fail
              obtain ⟨q0, q1, q2⟩ := HR6.out.store (.string id) (.int .i64 22) (.string va)
              have hbz := below_store3 HB6.out (Nat.le_refl w.heap.size) (.string id) (.int .i64 22) (.string va)
              obtain ⟨W3, hW3⟩ : ∃ W3, W3 = ((w6.setCell ⟨w.heap.size, 0, none⟩ (.string id)).setCell ⟨w.heap.size, 1, none⟩ (.int .i64 22)).setCell ⟨w.heap.size, 2, none⟩ (.string va) := ⟨_, rfl⟩
              rw [← hW3] at q0 q1 q2 hbz ⊢
              exact bodyPost_ret (v := .tuple #[.agg #[(.string id), (.int .i64 22), (.string va)], .bool true]) (by simp [results, Tryz.results57, go_sem, q0, q1, q2]) rfl ⟨by rw [HS.out, HK.out]; rfl, hbz⟩
            · have t1 : (id.toList == oidDC) = false := by rw [ByteArray.toList_eq]; simpa using h1
              have t2 : ¬ id.toList = oidDC := by rw [ByteArray.toList_eq]; exact h1
              by_cases h2 : id.data.toList = oidE
              · have t3 : (id.toList == oidE) = true := by rw [ByteArray.toList_eq, h2]; rfl
                have t4 : id.toList = oidE := by rw [ByteArray.toList_eq, h2]
                have HK := hide (show kindA id.data.toList va.data.toList = 22 by rw [kindA, if_pos (.inr h2)])
                clear h1 h2 t1 t2
                unfold oidE at t3 t4
                obtain ⟨r0, r1, r2, f0, f1, f2⟩ := HR6.out.facts
                go_wp2_with fail
                obtain ⟨q0, q1, q2⟩ := HR6.out.store (.string id) (.int .i64 22) (.string va)
                have hbz := below_store3 HB6.out (Nat.le_refl w.heap.size) (.string id) (.int .i64 22) (.string va)
                obtain ⟨W3, hW3⟩ : ∃ W3, W3 = ((w6.setCell ⟨w.heap.size, 0, none⟩ (.string id)).setCell ⟨w.heap.size, 1, none⟩ (.int .i64 22)).setCell ⟨w.heap.size, 2, none⟩ (.string va) := ⟨_, rfl⟩
                rw [← hW3] at q0 q1 q2 hbz ⊢
                exact bodyPost_ret (v := .tuple #[.agg #[(.string id), (.int .i64 22), (.string va)], .bool true]) (by simp [results, Tryz.results57, go_sem, q0, q1, q2]) rfl ⟨by rw [HS.out, HK.out]; rfl, hbz⟩
              · have t3 : (id.toList == oidE) = false := by rw [ByteArray.toList_eq]; simpa using h2
                have t4 : ¬ id.toList = oidE := by rw [ByteArray.toList_eq]; exact h2
                obtain ⟨q, hq⟩ : ∃ q, validT 19 va.data.toList = q := ⟨_, rfl⟩
                have HK := hide (show kindA id.data.toList va.data.toList = if q = true then 19 else 12 by rw [kindA, if_neg (by rintro (h | h); exact h1 h; exact h2 h), hq])
                have HQ := hide hq
                clear h1 h2 hq
                unfold oidDC at t1 t2
                unfold oidE at t3 t4
                go_wp2_with fail
                refine (text_v 19 va (by omega) q HQ.out _).mono ?_
                rintro e w7 ⟨rfl, hb7⟩
                have HB7 := hide (HB6.out.trans (hb7.mono HB6.out.size))
                have HR7 := hide (HR6.out.below hb7)
                clear hb7
                cases q
                · obtain ⟨r0, r1, r2, f0, f1, f2⟩ := HR7.out.facts
                  go_wp2_with fail
                  obtain ⟨q0, q1, q2⟩ := HR7.out.store (.string id) (.int .i64 12) (.string va)
                  have hbz := below_store3 HB7.out (Nat.le_refl w.heap.size) (.string id) (.int .i64 12) (.string va)
                  obtain ⟨W3, hW3⟩ : ∃ W3, W3 = ((w7.setCell ⟨w.heap.size, 0, none⟩ (.string id)).setCell ⟨w.heap.size, 1, none⟩ (.int .i64 12)).setCell ⟨w.heap.size, 2, none⟩ (.string va) := ⟨_, rfl⟩
                  rw [← hW3] at q0 q1 q2 hbz ⊢
                  exact bodyPost_ret (v := .tuple #[.agg #[(.string id), (.int .i64 12), (.string va)], .bool true]) (by simp [results, Tryz.results57, go_sem, q0, q1, q2]) rfl ⟨by rw [HS.out, HK.out]; rfl, hbz⟩
                · obtain ⟨r0, r1, r2, f0, f1, f2⟩ := HR7.out.facts
                  go_wp2_with fail
                  obtain ⟨q0, q1, q2⟩ := HR7.out.store (.string id) (.int .i64 19) (.string va)
                  have hbz := below_store3 HB7.out (Nat.le_refl w.heap.size) (.string id) (.int .i64 19) (.string va)
                  obtain ⟨W3, hW3⟩ : ∃ W3, W3 = ((w7.setCell ⟨w.heap.size, 0, none⟩ (.string id)).setCell ⟨w.heap.size, 1, none⟩ (.int .i64 19)).setCell ⟨w.heap.size, 2, none⟩ (.string va) := ⟨_, rfl⟩
                  rw [← hW3] at q0 q1 q2 hbz ⊢
                  exact bodyPost_ret (v := .tuple #[.agg #[(.string id), (.int .i64 19), (.string va)], .bool true]) (by simp [results, Tryz.results57, go_sem, q0, q1, q2]) rfl ⟨by rw [HS.out, HK.out]; rfl, hbz⟩
end Go.Proofs.YtbafpgdmnkkclaaGreatDoor

/- The functions of package dname: Parse. -/
namespace Go.Proofs.YtbafpgdmnkkclaaGreatDoor
open Go.RowKit

theorem info_rdn : (Tryz.prog.info? 42).map (fun i => (i.zero, i.size, i.bytes)) = some (some (.slice none 0 0), 1, 24) := by kernel_rfl
theorem info_att : (Tryz.prog.info? 40).map (fun i => (i.zero, i.size, i.bytes)) = some (some (.agg #[.string ⟨#[]⟩, .int .i64 0, .string ⟨#[]⟩]), 3, 40) := by kernel_rfl
/-- a variable that holds a name -/
def NB (g : Nat) (v : Value) (W : World) : Prop := W.heap[g]? = some (.cells #[v] 31 (0, 0))
theorem NB.facts {g : Nat} {v : Value} {W : World} (h : NB g v W) : W.cell? ⟨g, 0, none⟩ = some v ∧ W.frozen? ⟨g, 0, none⟩ = false := by
  unfold NB at h
  simp [World.cell?, World.frozen?, h]
theorem NB.lt {g : Nat} {v : Value} {W : World} (h : NB g v W) : g < W.heap.size := (Array.getElem?_eq_some_iff.1 h).1
theorem NB.below {g : Nat} {v : Value} {W W' : World} (h : NB g v W) (hb : Below W.heap.size W W') : NB g v W' := (hb.block g h.lt).trans h
theorem NB.other {g g' j : Nat} {v u : Value} {W : World} (h : NB g v W) (hne : g ≠ g') : NB g v (W.setCell ⟨g', j, none⟩ u) := (Below.heap_setCell W ⟨g', j, none⟩ u g hne).trans h
theorem NB.store {g : Nat} {v : Value} {W : World} (h : NB g v W) (u : Value) : NB g u (W.setCell ⟨g, 0, none⟩ u) := by
  unfold NB at *
  simp [World.setCell, Array.getElem?_modify, h]
theorem Own.other {α : Type} {R : Rep α} {size : Nat} {e : TypeId} {w : World} {base : Nat} {S : Nat → Prop} {v : Value} {l : List α} (hR : RepOk R size) (h : Own R size e w base S v l) (hS : ∀ k, S k → base ≤ k) {g j : Nat} (hg : g < base) (u : Value) :
    Own R size e (w.setCell ⟨g, j, none⟩ u) base S v l :=
  Own.keep hR h (fun k hk => Below.heap_setCell w _ u k (by have := (h.lt k hk).1; show k ≠ g; omega)) (fun k hk => Below.heap_setCell w _ u k (by have := hS k hk; show k ≠ g; omega)) (fun _ hk => hk) (by obtain ⟨_, _, h2, _⟩ := h; exact h2)

theorem Ex.then_base {d : Nat} {a b c : World} (h : Ex d a b) (k : Below a.heap.size b c) : Ex d a c :=
  ⟨k.os.trans h.os, k.tape.trans h.tape, k.output.trans h.output, Nat.le_trans h.size k.size, fun j hj hne => (k.block j hj).trans (h.block j hj hne)⟩
theorem news_one {α : Type} {R : Rep α} {w : World} {S : Nat → Prop} {x : Value} {y : α} {t : TypeId} (h : R (w.alloc (.cells #[x] t)) S y [x]) :
    ∀ i z, [y][i]? = some z → ∃ cs, R (w.alloc (.cells #[x] t)) S z cs ∧ ∀ j u, cs[j]? = some u → (w.alloc (.cells #[x] t)).cell? ((⟨w.heap.size, 0, none⟩ : Addr).add (i * 1 + j)) = some u := by
  intro i z hz
  match i, hz with
  | 0, hz =>
    simp at hz; subst hz
    refine ⟨[x], h, fun j u hu => ?_⟩
    match j, hu with
    | 0, hu =>
      simp at hu; subst hu
      rw [Addr.add_lit, World.cell?_alloc_new]; rfl
theorem news_att (w : World) (S : Nat → Prop) (t : TypeId) (a : Attr) :
    ∀ i y, [a][i]? = some y → ∃ cs, RAttr (w.alloc (.cells #[.string ⟨a.1.toArray⟩, .int .i64 a.2.1, .string ⟨a.2.2.toArray⟩] t)) S y cs ∧ ∀ j u, cs[j]? = some u → (w.alloc (.cells #[.string ⟨a.1.toArray⟩, .int .i64 a.2.1, .string ⟨a.2.2.toArray⟩] t)).cell? ((⟨w.heap.size, 0, none⟩ : Addr).add (i * 3 + j)) = some u :=
  news_pu (f := attC) (size := 3) (fun _ => rfl) w S #[.string ⟨a.1.toArray⟩, .int .i64 a.2.1, .string ⟨a.2.2.toArray⟩] t [a] rfl
theorem news_att2 (w : World) (ob : Obj) (S : Nat → Prop) (t : TypeId) (a : Attr) :
    ∀ i y, [a][i]? = some y → ∃ cs, RAttr ((w.alloc ob).alloc (.cells #[.string ⟨a.1.toArray⟩, .int .i64 a.2.1, .string ⟨a.2.2.toArray⟩] t)) S y cs ∧ ∀ j u, cs[j]? = some u → ((w.alloc ob).alloc (.cells #[.string ⟨a.1.toArray⟩, .int .i64 a.2.1, .string ⟨a.2.2.toArray⟩] t)).cell? ((⟨w.heap.size + 1, 0, none⟩ : Addr).add (i * 3 + j)) = some u := by
  have := news_att (w.alloc ob) S t a
  rw [World.size_alloc] at this
  exact this
/-- strings.Split at one byte: the pieces -/
theorem split_v (s : ByteArray) (hs : s.size ≤ 1000000) (c : UInt8) (w : World) (hmx : Mx w) :
    Calls Tryz.prog 56 #[.string s, .string ⟨#[c]⟩] w fun e w' => e = .returned (.slice (some ⟨w.heap.size, 0, none⟩) (splitC c s.data.toList).length (splitC c s.data.toList).length) ∧ Below w.heap.size w w' ∧ w'.heap.size = w.heap.size + 1 ∧
      Sl RStr 1 w' (Lt w'.heap.size) (splitC c s.data.toList) [.slice (some ⟨w.heap.size, 0, none⟩) (splitC c s.data.toList).length (splitC c s.data.toList).length] := by
  obtain ⟨m, hm⟩ := hmx
  refine (Tryz.strings_Split s ⟨#[c]⟩ m w (by omega) hm (Nat.le_refl 1)).mono fun e w' ⟨he, hw⟩ => ?_
  have hl := splitB_len c s
  have hc := splitB_C c s
  have hl2 : (splitC c s.data.toList).length = Lib.countB s ⟨#[c]⟩ + 1 := by rw [← hc, List.length_map, hl]
  have hcl := splitC_len c s.data.toList
  rw [size_string] at hcl
  refine ⟨by rw [he, hl2], by rw [hw]; exact (Below.refl _ _).alloc (Nat.le_refl _) _, by rw [hw]; simp, ?_⟩
  rw [hw]
  refine sl_new (f := strC) (size := 1) (fun _ => rfl) w _ _ _ ?_ (by unfold maxLen; omega)
  rw [← hc]
  show (List.map Value.string _) = _
  generalize Lib.splitB ⟨#[c]⟩ 0 (Lib.countB s ⟨#[c]⟩) s = L
  induction L with
  | nil => rfl
  | cons x L ih => rw [List.map_cons, List.map_cons, List.flatMap_cons, ← ih]; rfl

def parseRs : List (List UInt8) → Option (List Attr)
  | [] => some []
  | p :: ps => (parseA p).bind fun a => (parseRs ps).map (a :: ·)
def parseNs : List (List UInt8) → Option Name
  | [] => some []
  | p :: ps => (parseRs (splitC 43 p)).bind fun r => (parseNs ps).map (r :: ·)
def parseF : Option Name → Int × Name
  | none => (32, [])
  | some n => if chkN n = 0 then (0, n) else (chkN n, [])
def parseP (s : List UInt8) : Int × Name := if s = [] then (0, []) else parseF (parseNs (splitC 44 s))
theorem parseA_small {s : List UInt8} {a : Attr} (h : parseA s = some a) (hs : s.length ≤ 100000) : SmallA a := by
  obtain ⟨h1, h2⟩ := cut_len s
  unfold parseA at h
  split at h
  · cases h
  · obtain ⟨v, hv, h3⟩ := Option.bind_eq_some_iff.1 h
    split at h3
    · cases h3
      refine ⟨Nat.le_trans (shortL_len shortTab _ (by decide) (by omega)) (by decide), ?_⟩
      have := unesc_len hv
      show v.length ≤ 131072
      omega
    · cases h3
theorem chkN_fits (n : Name) : 0 ≤ chkN n ∧ chkN n ≤ 14 := by
  have hA : ∀ (r pre : List Attr), 0 ≤ chkA pre r ∧ chkA pre r ≤ 14 := by
    intro r
    induction r with
    | nil => intro pre; simp [chkA]
    | cons a r ih =>
      intro pre
      unfold chkA
      split
      · omega
      · split
        · omega
        · split
          · omega
          · split
            · omega
            · exact ih _
  have hR : ∀ r : List Attr, 0 ≤ chkR r ∧ chkR r ≤ 14 := by
    intro r
    unfold chkR
    split
    · omega
    · split
      · omega
      · exact hA r []
  have hN : ∀ n : Name, 0 ≤ chkRs n ∧ chkRs n ≤ 14 := by
    intro n
    induction n with
    | nil => simp [chkRs]
    | cons r n ih =>
      unfold chkRs
      split
      · exact ih
      · exact hR r
  unfold chkN
  split
  · omega
  · exact hN n
def ParsePost (w : World) (p : Int × Name) (e : Ending) (w' : World) : Prop :=
  ∃ v, e = .returned (.tuple #[.agg #[v], .int .i64 p.1]) ∧ Sl RRdn 1 w' (Lt w'.heap.size) p.2 [v] ∧ Below w.heap.size w w' ∧ SmallN p.2

end Go.Proofs.YtbafpgdmnkkclaaGreatDoor
