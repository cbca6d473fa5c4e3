/- The law SubtreeOrder, its walk. -/
import Derived.Test.YtepibepgfackkaaDoorGnK
import Derived.Test.YtepibepgfackkaaDoorGnL
import Derived.Test.YtepibepgfackkaaDoorGnM
import Derived.Deep.RegionHeld3
import Derived.Deep.DeepCutAuto
namespace Go.Proofs.YtepibepgfackkaaDoor
open Go.RowKit

theorem seven_held {P : Program} {f : FuncId} {args : Array Value} {W wx : World} {q : Bool} {g4 g5 g7 g9 : Nat} {u4 u5 u7 k9 t9 v9 : Value} (hc : Calls P f args W fun e w' => e = .returned (.bool q) ∧ Below W.heap.size W w')
    (h1 : W.cell? ⟨g4, 0, none⟩ = some u4) (h2 : W.cell? ⟨g5, 0, none⟩ = some u5) (h3 : W.cell? ⟨g7, 0, none⟩ = some u7) (h4 : W.cell? ⟨g9, 0, none⟩ = some k9) (h5 : W.cell? ⟨g9, 1, none⟩ = some t9) (h6 : W.cell? ⟨g9, 2, none⟩ = some v9) (h7 : Below wx.heap.size wx W) :
    Calls P f args W fun e w' => e = .returned (.bool q) ∧ w'.cell? ⟨g4, 0, none⟩ = some u4 ∧ w'.cell? ⟨g5, 0, none⟩ = some u5 ∧ w'.cell? ⟨g7, 0, none⟩ = some u7 ∧ w'.cell? ⟨g9, 0, none⟩ = some k9 ∧ w'.cell? ⟨g9, 1, none⟩ = some t9 ∧ w'.cell? ⟨g9, 2, none⟩ = some v9 ∧ Below wx.heap.size wx w' :=
  hc.mono fun _ _ ⟨he, hb⟩ => ⟨he, cell_grows hb _ _ h1, cell_grows hb _ _ h2, cell_grows hb _ _ h3, cell_grows hb _ _ h4, cell_grows hb _ _ h5, cell_grows hb _ _ h6, h7.trans (hb.mono h7.size)⟩
theorem six_ex {d g4 g5 g7 : Nat} {u4 u5 u7 : Value} {w w' : World} (h1 : w.cell? ⟨g4, 0, none⟩ = some u4) (h2 : w.cell? ⟨g5, 0, none⟩ = some u5) (h3 : w.cell? ⟨g7, 0, none⟩ = some u7) (n1 : g4 ≠ d) (n2 : g5 ≠ d) (n3 : g7 ≠ d) (hx : Ex d w w') :
    w'.cell? ⟨g4, 0, none⟩ = some u4 ∧ w'.cell? ⟨g5, 0, none⟩ = some u5 ∧ w'.cell? ⟨g7, 0, none⟩ = some u7 :=
  ⟨(hx.cell (p := ⟨g4, 0, none⟩) (World.block_lt_of_cell? w _ h1) n1).trans h1, (hx.cell (p := ⟨g5, 0, none⟩) (World.block_lt_of_cell? w _ h2) n2).trans h2, (hx.cell (p := ⟨g7, 0, none⟩) (World.block_lt_of_cell? w _ h3) n3).trans h3⟩

theorem sl_alloc {α : Type} {R : Rep α} {size : Nat} (hR : RepOk R size) {w : World} {B : Nat} {l : List α} {v : Value} (h : Sl R size w (Btw B w.heap.size) l [v]) (o : Obj) : Sl R size (w.alloc o) (Btw B (w.alloc o).heap.size) l [v] :=
  (Sl.ok hR).mono h (fun j hj => Below.heap_alloc _ _ j hj.2) (fun j hj => ⟨hj.1, by have := hj.2; simp; omega⟩)

theorem sl_up {α : Type} {R : Rep α} {size : Nat} (hR : RepOk R size) {w : World} {B B1 : Nat} {l : List α} {v : Value} (h : Sl R size w (Btw B1 w.heap.size) l [v]) (hB : B ≤ B1) : Sl R size w (Btw B w.heap.size) l [v] :=
  (Sl.ok hR).mono h (fun _ _ => rfl) (fun j hj => ⟨by have := hj.1; omega, hj.2⟩)
abbrev ZS : Obj := .cells #[.slice none 0 0] 53
/-- what the region leaves that makes the longer state -/
def SoCut (d : Nat) (st : List Sub) (wo : World) (s : Value) (wx : World) : Prop :=
  ∃ (g : Nat) (y : Sub) (B : Option Addr) (cb : Nat), s = .pointer (some ⟨g, 0, none⟩) ∧ g ≠ d ∧ GoodSub y ∧ TB g (.slice B (st.length + 1) cb) wx ∧ Sl RSub 2 wx (Nd d wx.heap.size) (st ++ [y]) [.slice B (st ++ [y]).length cb] ∧ DeckAt wx d ∧ Ex d wo wx
theorem socut_new {d : Nat} {st : List Sub} {wo W w6 : World} {p x : List Gen} {B : Option Addr} {cb : Nat} (hq : GoodSub (p, x)) (h : Sl RSub 2 w6 (Btw W.heap.size w6.heap.size) (st ++ [(p, x)]) [.slice B (st ++ [((p, x) : Sub)]).length cb]) (hW : d < W.heap.size) (h2 : DeckAt w6 d) (h3 : Ex d wo w6) :
    SoCut d st wo (.pointer (some ⟨w6.heap.size, 0, none⟩)) (w6.alloc (.cells #[.slice B (st.length + 1) cb] 53)) :=
  ⟨_, (p, x), B, cb, rfl, Nat.ne_of_gt h2.lt, hq, heap_alloc_new w6 _, (Sl.ok RSub.ok).mono h (fun j hj => Below.heap_alloc _ _ j hj.2) (fun j hj => ⟨by have := hj.2; simp; omega, by have := hj.1; omega⟩), h2.alloc _, h3.alloc _⟩
theorem socut_set {d g : Nat} {st : List Sub} {wo W w6 : World} {p x : List Gen} {B : Option Addr} {cb : Nat} {u : Value} (hq : GoodSub (p, x)) (h : Sl RSub 2 w6 (Btw W.heap.size w6.heap.size) (st ++ [(p, x)]) [.slice B (st ++ [((p, x) : Sub)]).length cb]) (hd : d < wo.heap.size) (hg : TB g u w6) (hgo : wo.heap.size ≤ g) (hgW : g < W.heap.size) (h2 : DeckAt w6 d) (h3 : Ex d wo w6) :
    SoCut d st wo (.pointer (some ⟨g, 0, none⟩)) (w6.setCell ⟨g, 0, none⟩ (.slice B (st.length + 1) cb)) :=
  ⟨g, (p, x), B, cb, rfl, by omega, hq, hg.store _, (Sl.ok RSub.ok).mono h (fun j hj => Below.heap_setCell _ ⟨g, 0, none⟩ _ j (by have := hj.1; show j ≠ g; omega)) (fun j hj => ⟨by have := hj.2; simp; omega, by have := hj.1; omega⟩), h2.set_ (by omega) _, h3.setNew hgo _⟩

theorem att_cells_g {w W : World} {t : ByteArray} {k : Int} {v : Value} {T : TypeId} (h : W = w.alloc (.cells #[.int .i64 k, .string t, v] T)) :
    W.cell? ⟨w.heap.size, 0, none⟩ = some (.int .i64 k) ∧ W.cell? ⟨w.heap.size, 1, none⟩ = some (.string t) ∧ W.cell? ⟨w.heap.size, 2, none⟩ = some v := by
  subst h
  refine ⟨?_, ?_, ?_⟩ <;> (rw [World.cell?_alloc_new]; rfl)

theorem permits_n (g : Gen) (t : ByteArray) (A : Option Addr) (c : Nat) (st : List Sub) (B : Option Addr) (n d : Nat) (hn : st.length = n) (ht : t.data.toList = g.2.1) (hg : SmallG g) (hl : SmallS st) (q : Bool) (hq : permitsG st g = q) (w : World) (hmx : Mx w)
    (h1 : Sl RRdn 1 w (Lt w.heap.size) g.2.2 [.slice A g.2.2.length c]) (h2 : Sl RSub 2 w (Lt w.heap.size) st [.slice B st.length d]) :
    Calls Tryd.prog 29 #[.agg #[.slice B n d], .agg #[.int .i64 g.1, .string t, .slice A g.2.2.length c]] w fun e w' => e = .returned (.bool q) ∧ Below w.heap.size w w' := hn ▸ permits_any g t A c st B d ht hg hl q hq w hmx h1 h2


set_option maxRecDepth 100000 in
set_option maxHeartbeats 16000000 in
theorem SubtreeOrder_any (l : List Int) (A0 : Option Addr) (n0 c0 : Nat) (w : World) (hmx : Mx w) (h : Sl RInt 1 w (Lt w.heap.size) l [.slice A0 n0 c0]) :
    Calls Tryd.prog 7 #[.slice A0 n0 c0] w fun e w' => e = .returned (.bool true) ∧ Below w.heap.size w w' := by
  have HMX := hide hmx
  have K := hide h
  clear hmx h
  go_enter Tryd.func7, Tryd.ntmps7
  go_wp2_with fail
  refine (New_any l A0 n0 c0 _ K.out).mono ?_
  rintro e w1 ⟨rfl, hdk1, hb1⟩
  obtain ⟨d, hd⟩ : ∃ d, d = w.heap.size := ⟨_, rfl⟩
  rw [← hd] at hdk1 ⊢
  have HB1 := hide hb1
  have HDK1 := hide hdk1
  have HD := hide hd
  clear hb1 hdk1 hd
  go_wp2_with fail
  refine (state_any d _ HDK1.out).mono ?_
  rintro e w2 ⟨st, A, c, hgst, rfl, hsl2, hdk2, hex2⟩
  have hst4 : st.length ≤ 4 := hgst.1
  have hdw1 := HDK1.out.lt
  have hd := HD.out
  have hz2 := hex2.size
  obtain ⟨g4, hg4⟩ : ∃ g4, g4 = w2.heap.size := ⟨_, rfl⟩
  obtain ⟨g5, hg5⟩ : ∃ g5, g5 = w2.heap.size + 1 := ⟨_, rfl⟩
  obtain ⟨w3, hw3⟩ : ∃ w3, w3 = (w2.alloc (.cells #[.slice A st.length c] 53)).alloc (.cells #[.slice none 0 0] 53) := ⟨_, rfl⟩
  have hz3 : w3.heap.size = w2.heap.size + 2 := by rw [hw3]; simp
  have ht4 : TB g4 (.slice A st.length c) w3 := by
    unfold TB
    rw [hw3, Below.heap_alloc _ _ _ (by simp; omega), hg4]
    exact heap_alloc_new w2 _
  have ht5 : TB g5 (.slice none 0 0) w3 := by
    unfold TB
    rw [hw3, hg5, show w2.heap.size + 1 = (w2.alloc (.cells #[.slice A st.length c] 53)).heap.size by simp]
    exact heap_alloc_new _ _
  have hsl3 : Sl RSub 2 w3 (fun j => j < g4 ∧ j ≠ d) st [.slice A st.length c] := (Sl.ok RSub.ok).mono hsl2 (fun j hj => by rw [hw3, Below.heap_alloc _ _ _ (by have := hj.2; simp; omega), Below.heap_alloc _ _ _ hj.2]) (fun j hj => ⟨by have := hj.2; omega, by have := hj.1; omega⟩)
  have HDK3 := hide (show DeckAt w3 d by rw [hw3]; exact (hdk2.alloc _).alloc _)
  have HEX3 := hide (show Ex d w1 w3 by rw [hw3]; exact (hex2.alloc _).alloc _)
  have HT4 := hide ht4
  have HT5 := hide ht5
  have HS4 := hide hsl3
  have HGS := hide hgst
  have hd4 : d < g4 := by omega
  have h45 : g4 < g5 := by omega
  have hw15 : w1.heap.size ≤ g5 := by omega
  have h53 : g5 < w3.heap.size := by omega
  have HG4 := hide hg4
  have HG5 := hide hg5
  have HZ3 := hide hz3
  have HW3 := hide hw3
  clear hsl2 hdk2 hex2 ht4 ht5 hsl3 hgst hd hg4 hg5 hz3 hw3
  go_upto_region 4 with (fail)
  rw [← HW3.out, ← HG5.out, ← HG4.out]
  have hd5 : g5 ≠ d := by omega
  have hd4n : g4 ≠ d := by omega
  obtain ⟨y4, -⟩ := HT4.out.facts
  have hwr : IntKind.i64.wrap ((st.length : Int) - 1) = (st.length : Int) - 1 := IntWalk.i64_in _ (by omega)
  go_wp2_with fail
  go_loopw [6] (fun i wr => ∃ (k : Nat) (B : Option Addr) (cb : Nat), k ≤ st.length ∧ i = .int .i64 ((k : Int) - 1) ∧ DeckAt wr d ∧ Ex d w1 wr ∧ g5 < wr.heap.size ∧ TB g4 (.slice A st.length c) wr ∧ TB g5 (.slice B (st.drop k).reverse.length cb) wr ∧
      Sl RSub 2 wr (fun j => j < g4 ∧ j ≠ d) st [.slice A st.length c] ∧ Sl RSub 2 wr (Btw (g5 + 1) wr.heap.size) (st.drop k).reverse [.slice B (st.drop k).reverse.length cb]) (fun i _ => (intOf i + 1).toNat)
  case atStart => exact ⟨st.length, none, 0, Nat.le_refl _, rfl, HDK3.out, HEX3.out, h53, HT4.out, by simpa using HT5.out, HS4.out, by simpa using Sl.nil _ _ _ _⟩
  case round =>
    obtain ⟨k, B, cb, hk, rfl, hdk, hex, hg5s, ht4, ht5, hs4, hs5⟩ := hrel
    obtain ⟨bk, hbk⟩ : ∃ bk, (st.drop k).reverse = bk := ⟨_, rfl⟩
    rw [hbk] at ht5 hs5
    have hw1g : w1.heap.size ≤ g5 := hw15
    clear HDK3 HEX3 HT4 HT5 HS4 y4 h53
    cases k with
    | succ m =>
      have hm : m < st.length := by omega
      have hi : ((((m + 1 : Nat) : Int)) - 1) = (m : Int) := by omega
      rw [hi]
      have hm0 : (0 : Int) ≤ (m : Int) := by omega
      have hmi : (m : Int) < (st.length : Int) := by omega
      have hbl : bk.length ≤ 4 := by rw [← hbk]; simp; omega
      obtain ⟨b2, o2, P1, c1, P2, c2, hA, hbS, e0, e1, hsp, hsx⟩ := hs4.subAt hm
      subst hA
      obtain ⟨pb, hpb⟩ : ∃ pb, st[m].1 = pb := ⟨_, rfl⟩
      obtain ⟨xb, hxb⟩ : ∃ xb, st[m].2 = xb := ⟨_, rfl⟩
      have hbe : st[m] = (pb, xb) := by rw [← hpb, ← hxb]
      have hcpb : CpS (pb, xb) := by rw [← hbe]; exact HGS.out.cp _ (List.getElem_mem hm)
      have hcpk : ∀ s ∈ bk, CpS s := fun s hs => HGS.out.cp s (by rw [← hbk] at hs; exact List.mem_of_mem_drop (List.mem_reverse.1 hs))
      have hnext : bk ++ [(pb, xb)] = (st.drop m).reverse := by rw [← hbk, ← hbe, List.drop_eq_getElem_cons hm, List.reverse_cons]
      rw [hpb] at e0 hsp
      rw [hxb] at e1 hsx
      have E0 := hide (Add_any bk pb xb B P1 P2 cb c1 c2 (by omega) hcpk hcpb wr.drew ((Sl.ok RSub.ok).mono hs5 (fun _ _ => rfl) (fun j hj => hj.2)) ((Sl.ok RGen.ok).mono hsp (fun _ _ => rfl) (fun j hj => by show j < _; have := hj.1; simp; omega)) ((Sl.ok RGen.ok).mono hsx (fun _ _ => rfl) (fun j hj => by show j < _; have := hj.1; simp; omega)))
      have y4 : wr.drew.cell? ⟨g4, 0, none⟩ = some (.slice (some ⟨b2, o2, none⟩) st.length c) := ht4.facts.1
      have y5 : wr.drew.cell? ⟨g5, 0, none⟩ = some (.slice B bk.length cb) := ht5.facts.1
      have y0 : wr.drew.cell? ⟨b2, o2 + m * 2, none⟩ = some (.slice P1 pb.length c1) := e0
      have y1 : wr.drew.cell? ⟨b2, o2 + m * 2 + 1, none⟩ = some (.slice P2 xb.length c2) := e1
      have HT4 := hide ht4
      have HT5D := hide (show TB g5 (.slice B bk.length cb) wr.drew from ht5)
      have HS4 := hide hs4
      have HDK := hide hdk
      have HEX := hide hex
      have HNX := hide hnext
      clear hdk hex ht4 ht5 hs4 hs5 hsp hsx hpb hxb hbe hcpb hcpk hnext hbk hi e0 e1
      go_upto_region 7 with (fail)
      go_region_law (first
        | (go_simp; go_at_call 26; refine E0.out.mono ?_; rintro e w5 ⟨B5, c5, rfl, hsl5, hb5⟩; have hg7 : TB g5 (.slice B bk.length cb) w5 := HT5D.out.below hb5 hg5s; have q1 := hg7.facts.1; have q2 := hg7.facts.2)
        | fail)
      all_goals
        have hz5 := hb5.size
        have hz5' : wr.heap.size ≤ w5.heap.size := hz5
        have HLN := hide (show (st.drop m).reverse.length = bk.length + 1 by rw [← HNX.out]; simp)
        rw [show (bk ++ [((pb, xb) : Sub)]).length = bk.length + 1 by simp, HNX.out] at hsl5
        have hbd : Below wr.heap.size wr w5 := (show Below wr.heap.size wr wr.drew from (Below.refl _ _).drew).trans hb5
        have HEXF := hide ((HEX.out.then_ hbd).setNew (g := g5) (j := 0) hw1g (.slice B5 (bk.length + 1) c5))
        have HDKF := hide ((HDK.out.below hbd).set_ (g := g5) (j := 0) (by omega) (.slice B5 (bk.length + 1) c5))
        have HT4F := hide ((HT4.out.below hbd (by omega)).other (k := g5) (j := 0) (by omega) (.slice B5 (bk.length + 1) c5))
        have HT5F := hide (hg7.store (.slice B5 (bk.length + 1) c5))
        have HS4F := hide ((Sl.ok RSub.ok).mono HS4.out (w' := w5.setCell ⟨g5, 0, none⟩ (.slice B5 (bk.length + 1) c5)) (fun j hj => (Below.heap_setCell _ ⟨g5, 0, none⟩ _ j (by show j ≠ g5; have := hj.1; omega)).trans (hbd.block j (by have := hj.1; omega))) (fun _ hj => hj))
        have HS5F := hide ((Sl.ok RSub.ok).mono hsl5 (w' := w5.setCell ⟨g5, 0, none⟩ (.slice B5 (bk.length + 1) c5)) (S' := Btw (g5 + 1) (w5.setCell ⟨g5, 0, none⟩ (.slice B5 (bk.length + 1) c5)).heap.size) (fun j hj => Below.heap_setCell _ ⟨g5, 0, none⟩ _ j (by show j ≠ g5; have h1 : wr.heap.size ≤ j := hj.1; omega)) (fun j hj => ⟨by have h1 : wr.heap.size ≤ j := hj.1; omega, by have := hj.2; simp; omega⟩))
        have hz7 : g5 < (w5.setCell ⟨g5, 0, none⟩ (.slice B5 (bk.length + 1) c5)).heap.size := by simp; omega
        have HZ7 := hide hz7
        clear hz5 hz7
        go_wp2_with fail
        go_roundw
        case rel => exact ⟨m, B5, c5, by omega, rfl, HDKF.out, HEXF.out, HZ7.out, HT4F.out, by rw [HLN.out]; exact HT5F.out, HS4F.out, by rw [HLN.out]; exact HS5F.out⟩
        case measure => simp [intOf] <;> omega
    | zero =>
      have HBK := hide (show bk = st.reverse from hbk.symm)
      rw [show ((((0 : Nat) : Int)) - 1) = -1 from rfl]
      have y4 : wr.drew.cell? ⟨g4, 0, none⟩ = some (.slice A st.length c) := ht4.facts.1
      have E0 := hide (fun (W : World) (hd : DeckAt W d) => Subtrees_any d W hd)
      have HT4 := hide ht4
      have HT5 := hide ht5
      have HS4 := hide hs4
      have HS5 := hide hs5
      have HEX := hide hex
      have HDK := hide hdk
      have E1 := hide (fun p x A5 A6 c5 c6 (hq : GoodSub (p, x)) (W : World) (hx : Ex d wr W) (h5 : Sl RGen 3 W (Btw wr.heap.size W.heap.size) p [.slice A5 p.length c5]) (h6 : Sl RGen 3 W (Btw wr.heap.size W.heap.size) x [.slice A6 x.length c6]) =>
        Add_any st p x A A5 A6 c c5 c6 (by omega) HGS.out.cp hq.cp W ((Sl.ok RSub.ok).mono HS4.out (fun j hj => hx.at_ (by have := hj.1; omega) hj.2) (fun j hj => by show j < _; have := hj.1; have := hx.size; omega)) ((Sl.ok RGen.ok).mono h5 (fun _ _ => rfl) (fun j hj => hj.2)) ((Sl.ok RGen.ok).mono h6 (fun _ _ => rfl) (fun j hj => hj.2)))
      clear hdk hex ht4 ht5 hs4 hs5 hbk
      obtain ⟨wo, rfl⟩ : ∃ wo : World, wo = wr := ⟨_, rfl⟩
      have D0 : DeckAt wo.drew d := HDK.out.drewN 1
      have D1 : DeckAt (wo.drew.alloc ZS) d := D0.alloc _
      have D2 : DeckAt (wo.alloc ZS).drew d := (HDK.out.alloc _).drewN 1
      have X0 : Ex d wo wo.drew := (Ex.refl d wo).drew
      have X1 : Ex d wo (wo.drew.alloc ZS) := X0.alloc _
      have X2 : Ex d wo (wo.alloc ZS).drew := ((Ex.refl d wo).alloc _).drew
      have T1 : TB wo.heap.size (.slice none 0 0) (wo.drew.alloc ZS) := heap_alloc_new wo.drew _
      have T2 : TB wo.heap.size (.slice none 0 0) (wo.alloc ZS).drew := heap_alloc_new wo _
      have y41 : (wo.drew.alloc ZS).cell? ⟨g4, 0, none⟩ = some (.slice A st.length c) := (TB.alloc (W := wo.drew) HT4.out _).facts.1
      have y42 : (wo.alloc ZS).drew.cell? ⟨g4, 0, none⟩ = some (.slice A st.length c) := (TB.alloc (W := wo) HT4.out _).facts.1
      have hdo : d < wo.heap.size := HDK.out.lt
      go_upto_region 8 with (fail)
      go_cut [7] (fun s wx => SoCut d st wo s wx)
      case first =>
        go_region_law (first
          | (go_simp; go_at_call 27; (first | (with_reducible refine (E0.out wo.drew D0).mono ?_) | fail); rintro e w5 ⟨p, x, A5, A6, c5, c6, hq, rfl, hsl5, hsl6, hdk5, hex5⟩; have hex5 : Ex d wo w5 := X0.trans hex5; have hg4 : TB g4 (.slice A st.length c) w5 := HT4.out.ex hex5 hd4n; have z4 := hg4.facts.1; have z4a := fun o => (hg4.alloc o).facts.1; have hsl5 : Sl RGen 3 w5 (Btw wo.heap.size w5.heap.size) p [.slice A5 p.length c5] := hsl5; have hsl6 : Sl RGen 3 w5 (Btw wo.heap.size w5.heap.size) x [.slice A6 x.length c6] := hsl6)
          | (go_simp; go_at_call 27; (first | (with_reducible refine (E0.out (wo.drew.alloc ZS) D1).mono ?_) | fail); rintro e w5 ⟨p, x, A5, A6, c5, c6, hq, rfl, hsl5, hsl6, hdk5, hex5⟩; have hg7 : TB wo.heap.size (.slice none 0 0) w5 := T1.ex hex5 (by omega); have hex5 : Ex d wo w5 := X1.trans hex5; have hg4 : TB g4 (.slice A st.length c) w5 := HT4.out.ex hex5 hd4n; have z4 := hg4.facts.1; have hsl5 := sl_up RGen.ok (B := wo.heap.size) hsl5 (by simp); have hsl6 := sl_up RGen.ok (B := wo.heap.size) hsl6 (by simp); have hgz := Nat.le_refl wo.heap.size; have hgs : wo.heap.size < w5.heap.size := hg7.lt)
          | (go_simp; go_at_call 27; (first | (with_reducible refine (E0.out (wo.alloc ZS).drew D2).mono ?_) | fail); rintro e w5 ⟨p, x, A5, A6, c5, c6, hq, rfl, hsl5, hsl6, hdk5, hex5⟩; have hg7 : TB wo.heap.size (.slice none 0 0) w5 := T2.ex hex5 (by omega); have hex5 : Ex d wo w5 := X2.trans hex5; have hg4 : TB g4 (.slice A st.length c) w5 := HT4.out.ex hex5 hd4n; have z4 := hg4.facts.1; have hsl5 := sl_up RGen.ok (B := wo.heap.size) hsl5 (by show wo.heap.size ≤ (wo.alloc ZS).heap.size; simp); have hsl6 := sl_up RGen.ok (B := wo.heap.size) hsl6 (by show wo.heap.size ≤ (wo.alloc ZS).heap.size; simp); have hgz := Nat.le_refl wo.heap.size; have hgs : wo.heap.size < w5.heap.size := hg7.lt)
          | (go_simp; go_at_call 26; (first | (with_reducible refine (E1.out p x A5 A6 c5 c6 hq (w5.alloc ZS) (hex5.alloc _) (sl_alloc RGen.ok hsl5 _) (sl_alloc RGen.ok hsl6 _)).mono ?_) | fail); rintro e w6 ⟨B6, c8, rfl, hsl7, hb6⟩; have hg7 : TB w5.heap.size (.slice none 0 0) w6 := TB.below (heap_alloc_new w5 _) hb6 (by simp); have q1 := hg7.facts.1; have q2 := hg7.facts.2; have hdk6 := (hdk5.alloc ZS).below hb6; have hex6 := (hex5.alloc ZS).then_ hb6; have hgz := hex5.size; have hgs : w5.heap.size < (w5.alloc ZS).heap.size := by simp)
          | (go_simp; go_at_call 26; (first | (with_reducible refine (E1.out p x A5 A6 c5 c6 hq w5 hex5 hsl5 hsl6).mono ?_) | fail); rintro e w6 ⟨B6, c8, rfl, hsl7, hb6⟩; have hg7 := TB.below hg7 hb6 hgs; have q1 := hg7.facts.1; have q2 := hg7.facts.2; have hdk6 := hdk5.below hb6; have hex6 := hex5.then_ hb6)
          | (go_simp; go_at_call 26; (first | (with_reducible refine (E1.out p x A5 A6 c5 c6 hq w5 hex5 hsl5 hsl6).mono ?_) | fail); rintro e w6 ⟨B6, c8, rfl, hsl7, hb6⟩; have hdk6 := hdk5.below hb6; have hex6 := hex5.then_ hb6)
          | fail)
        all_goals
          go_wp2_with fail
          go_meet
          first
          | exact socut_new hq hsl7 hdk5.lt hdk6 hex6
          | exact socut_set hq hsl7 hdo hg7 hgz hgs hdk6 hex6
      case rest =>
        obtain ⟨g7, y, B7, c7, rfl, h7d, hgy, ht7, hs7, hdk7, hex7⟩ := hcut
        obtain ⟨w7, rfl⟩ : ∃ w7 : World, w7 = wc := ⟨_, rfl⟩
        obtain ⟨x1, -⟩ := (HT4.out.ex hex7 hd4n).facts
        obtain ⟨x2, -⟩ := (HT5.out.ex hex7 hd5).facts
        obtain ⟨x3, -⟩ := ht7.facts
        have S4 := hide ((Sl.ok RSub.ok).mono HS4.out (fun j hj => hex7.at_ (by have := hj.1; omega) hj.2) (S' := Nd d w7.heap.size) (fun j hj => ⟨by have := hj.1; have := hex7.size; omega, hj.2⟩))
        have S5 := hide ((Sl.ok RSub.ok).mono HS5.out (fun j hj => hex7.at_ hj.2 (by have := hj.1; omega)) (S' := Nd d w7.heap.size) (fun j hj => ⟨by have := hj.2; have := hex7.size; omega, by have := hj.1; omega⟩))
        have S7 := hide hs7
        have HDK7 := hide hdk7
        have HEX7 := hide (HEX.out.trans hex7)
        have HGY := hide hgy
        clear hs7 hdk7 hgy ht7 hex7 HT4 HT5 HS4 HS5 HEX HDK E0 E1 D0 D1 D2 X0 X1 X2 T1 T2 y41 y42 y4
        go_wp2_with fail
        go_loopw [8] (fun i wr => ∃ k : Nat, k ≤ 8 ∧ i = .int .i64 k ∧ DeckAt wr d ∧ Ex d w7 wr) (fun i _ => 8 - (intOf i).toNat)
        case atStart => exact ⟨0, by omega, rfl, HDK7.out, Ex.refl _ _⟩
        case round =>
          obtain ⟨k, hk, rfl, hdk, hex⟩ := hrel
          have HDK := hide hdk
          have HEX := hide hex
          clear hdk hex
          by_cases hlt : k < 8
          · have hlt' : (k : Int) < 8 := by omega
            go_wp2_with fail
            refine (General_any d _ HDK.out).mono ?_
            rintro e w8 ⟨g, t, A9, c9, hgg, ht, rfl, hsl9, hdk8, hex8⟩
            have hx9 : Ex d w7 (w8.alloc (.cells #[.int .i64 g.1, .string t, .slice A9 g.2.2.length c9] 61)) := (HEX.out.trans hex8).alloc _
            have hdk9 : DeckAt (w8.alloc (.cells #[.int .i64 g.1, .string t, .slice A9 g.2.2.length c9] 61)) d := hdk8.alloc _
            obtain ⟨b1, b2, b3⟩ := att_cells_g (w := w8) (k := g.1) (t := t) (v := .slice A9 g.2.2.length c9) (T := 61) rfl
            have hn9 := sl_alloc RRdn.ok hsl9 (.cells #[.int .i64 g.1, .string t, .slice A9 g.2.2.length c9] 61)
            obtain ⟨w9, hw9⟩ : ∃ w9, w9 = w8.alloc (.cells #[.int .i64 g.1, .string t, .slice A9 g.2.2.length c9] 61) := ⟨_, rfl⟩
            rw [← hw9] at hx9 hdk9 b1 b2 b3 hn9
            have HW9 := hide hw9
            have HX9 := hide hx9
            have HDK9 := hide hdk9
            have HGG := hide hgg
            have HT := hide ht
            have HN9 := hide hn9
            clear hw9 hdk9 hgg ht hn9 hsl9 hdk8 hex8
            go_upto_region 13 with (fail)
            rw [← HW9.out]
            obtain ⟨g9, hg9⟩ : ∃ g9, g9 = w8.heap.size := ⟨_, rfl⟩
            rw [← hg9] at b1 b2 b3 ⊢
            clear hg9
            obtain ⟨a1, a2, a3⟩ := six_ex x1 x2 x3 hd4n hd5 h7d hx9
            obtain ⟨q, hq⟩ : ∃ q, permitsG st g = q := ⟨_, rfl⟩
            obtain ⟨r, hr⟩ : ∃ r, permitsG (st ++ [y]) g = r := ⟨_, rfl⟩
            have hqb : permitsG bk g = q := by rw [HBK.out, permitsG_rev, hq]
            have hrq : r = true → q = true := fun h => by
              have := permitsG_less st y g
              rw [hq, hr, h] at this
              simpa using this
            have hsm4 := HGS.out.small
            have hsm5 : SmallS bk := fun s hs => hsm4 s (by rw [HBK.out] at hs; exact List.mem_reverse.1 hs)
            have hsm7 : SmallS (st ++ [y]) := fun s hs => by
              rcases List.mem_append.1 hs with hs | hs
              · exact hsm4 s hs
              · simp at hs; subst hs; exact HGY.out.small
            have hb9 : Below w.heap.size w w9 := Ex.below HB1.out HB1.out.size (by rw [HD.out]; exact Nat.le_refl _) (HEX7.out.trans hx9)
            have SN := hide (fun W (hb : Below w9.heap.size w9 W) => (Sl.ok RRdn.ok).below ((Sl.ok RRdn.ok).mono HN9.out (fun _ _ => rfl) (fun j hj => hj.2) : Sl RRdn 1 w9 (Lt w9.heap.size) g.2.2 [.slice A9 g.2.2.length c9]) hb)
            have S49 := hide (fun W (hb : Below w9.heap.size w9 W) => (Sl.ok RSub.ok).below ((Sl.ok RSub.ok).lt ((Sl.ok RSub.ok).ex S4.out hx9)) hb)
            have S59 := hide (fun W (hb : Below w9.heap.size w9 W) => (Sl.ok RSub.ok).below ((Sl.ok RSub.ok).lt ((Sl.ok RSub.ok).ex S5.out hx9)) hb)
            have S79 := hide (fun W (hb : Below w9.heap.size w9 W) => (Sl.ok RSub.ok).below ((Sl.ok RSub.ok).lt ((Sl.ok RSub.ok).ex S7.out hx9)) hb)
            have MX := hide (fun W (hb : Below w9.heap.size w9 W) => HMX.out.below (hb9.trans (hb.mono hb9.size)))
            have PE := hide (fun W h1 h2 h3 h4 h5 h6 h7 => seven_held (wx := w9) (g4 := g4) (g5 := g5) (g7 := g7) (g9 := g9) (u4 := .slice A st.length c) (u5 := .slice B bk.length cb) (u7 := .slice B7 (st.length + 1) c7) (k9 := .int .i64 g.1) (t9 := .string t) (v9 := .slice A9 g.2.2.length c9) (permits_n g t A9 c9 st A st.length c rfl HT.out HGG.out.small hsm4 q hq W (MX.out W h7) (SN.out W h7) (S49.out W h7)) h1 h2 h3 h4 h5 h6 h7)
            have PB := hide (fun W h1 h2 h3 h4 h5 h6 h7 => seven_held (wx := w9) (g4 := g4) (g5 := g5) (g7 := g7) (g9 := g9) (u4 := .slice A st.length c) (u5 := .slice B bk.length cb) (u7 := .slice B7 (st.length + 1) c7) (k9 := .int .i64 g.1) (t9 := .string t) (v9 := .slice A9 g.2.2.length c9) (permits_n g t A9 c9 bk B bk.length cb rfl HT.out HGG.out.small hsm5 q hqb W (MX.out W h7) (SN.out W h7) (S59.out W h7)) h1 h2 h3 h4 h5 h6 h7)
            have PM := hide (fun W h1 h2 h3 h4 h5 h6 h7 => seven_held (wx := w9) (g4 := g4) (g5 := g5) (g7 := g7) (g9 := g9) (u4 := .slice A st.length c) (u5 := .slice B bk.length cb) (u7 := .slice B7 (st.length + 1) c7) (k9 := .int .i64 g.1) (t9 := .string t) (v9 := .slice A9 g.2.2.length c9) (permits_n g t A9 c9 (st ++ [y]) B7 (st.length + 1) c7 (by simp) HT.out HGG.out.small hsm7 r hr W (MX.out W h7) (SN.out W h7) (S79.out W h7)) h1 h2 h3 h4 h5 h6 h7)
            have a7 : Below w9.heap.size w9 w9 := Below.refl _ _
            have a7d : Below w9.heap.size w9 w9.drew := a7.drew
            have a1d : w9.drew.cell? ⟨g4, 0, none⟩ = some (.slice A st.length c) := a1
            have a2d : w9.drew.cell? ⟨g5, 0, none⟩ = some (.slice B bk.length cb) := a2
            have a3d : w9.drew.cell? ⟨g7, 0, none⟩ = some (.slice B7 (st.length + 1) c7) := a3
            have b1d : w9.drew.cell? ⟨g9, 0, none⟩ = some (.int .i64 g.1) := b1
            have b2d : w9.drew.cell? ⟨g9, 1, none⟩ = some (.string t) := b2
            have b3d : w9.drew.cell? ⟨g9, 2, none⟩ = some (.slice A9 g.2.2.length c9) := b3
            have HRQ := hide hrq
            have hqq : (q != q) = false := by simp
            clear hq hr hqb hrq hsm4 hsm5 hsm7 hb9 hx9 x1 x2 x3
            cases r
            · refine wp_region_noPanic ?_
              refine wp_region_held_drew (S := (fun W => W.cell? ⟨g4, 0, none⟩ = some (.slice A st.length c) ∧ W.cell? ⟨g5, 0, none⟩ = some (.slice B bk.length cb) ∧ W.cell? ⟨g7, 0, none⟩ = some (.slice B7 (st.length + 1) c7) ∧ W.cell? ⟨g9, 0, none⟩ = some (.int .i64 g.1) ∧ W.cell? ⟨g9, 1, none⟩ = some (.string t) ∧ W.cell? ⟨g9, 2, none⟩ = some (.slice A9 g.2.2.length c9) ∧ Below w9.heap.size w9 W)) (by kernel_rfl) ⟨a1d, a2d, a3d, b1d, b2d, b3d, a7d⟩ (fun hHeld => ?_)
              refine wpAnyH_take (i := 0) (v := ?va0) rfl (by kernel_rfl) (by kernel_rfl) (by kernel_rfl) ?hQ0 ?hy0 (by assumption) ?re0
              case hy0 =>
                first
                | (refine .inl ⟨rfl, ?_⟩
                   intro w hSw
                   try dsimp only at hSw
                   go_simp
                   done)
                | (refine .inl ⟨rfl, ?_⟩
                   intro w hSw
                   try dsimp only at hSw
                   go_simp
                   with_reducible rfl)
              case hQ0 => exact fun _ _ _ h => h
              try simp only [Act.put, List.setIfInBounds_toArray, List.set_cons_zero, List.set_cons_succ]
              refine wpAnyH_take (i := 1) (v := ?va1) rfl (by kernel_rfl) (by kernel_rfl) (by kernel_rfl) ?hQ1 ?hy1 (by assumption) ?re1
              case hy1 =>
                first
                | (refine .inl ⟨rfl, ?_⟩
                   intro w hSw
                   try dsimp only at hSw
                   go_simp
                   done)
                | (refine .inl ⟨rfl, ?_⟩
                   intro w hSw
                   try dsimp only at hSw
                   go_simp
                   with_reducible rfl)
              case hQ1 => exact fun _ _ _ h => h
              try simp only [Act.put, List.setIfInBounds_toArray, List.set_cons_zero, List.set_cons_succ]
              refine wpAnyH_take (i := 3) (v := ?va3) rfl (by kernel_rfl) (by kernel_rfl) (by kernel_rfl) ?hQ3 ?hy3 (by assumption) ?re3
              case hy3 =>
                first
                | (refine .inl ⟨rfl, ?_⟩
                   intro w hSw
                   try dsimp only at hSw
                   go_simp
                   done)
                | (refine .inl ⟨rfl, ?_⟩
                   intro w hSw
                   try dsimp only at hSw
                   go_simp
                   with_reducible rfl)
              case hQ3 => exact fun _ _ _ h => h
              try simp only [Act.put, List.setIfInBounds_toArray, List.set_cons_zero, List.set_cons_succ]
              refine wpAnyH_take (i := 4) (v := ?va4) rfl (by kernel_rfl) (by kernel_rfl) (by kernel_rfl) ?hQ4 ?hy4 (by assumption) ?re4
              case hy4 =>
                first
                | (refine .inl ⟨rfl, ?_⟩
                   intro w hSw
                   try dsimp only at hSw
                   go_simp
                   done)
                | (refine .inl ⟨rfl, ?_⟩
                   intro w hSw
                   try dsimp only at hSw
                   go_simp
                   with_reducible rfl)
              case hQ4 => exact fun _ _ _ h => h
              try simp only [Act.put, List.setIfInBounds_toArray, List.set_cons_zero, List.set_cons_succ]
              refine wpAnyH_ready (rs := [2]) (by kernel_rfl) (by simp) ?_
              refine AllReadyH.cons rfl (fun K hK => ?_) AllReadyH.nil
              go_simp
              refine (PE.out _ hHeld.1 hHeld.2.1 hHeld.2.2.1 hHeld.2.2.2.1 hHeld.2.2.2.2.1 hHeld.2.2.2.2.2.1 hHeld.2.2.2.2.2.2).mono ?_
              clear hHeld
              rintro e w9 ⟨rfl, hHeld⟩
              go_wp2_with fail
              refine hK.out _ _ hHeld (fun hHeld => ?_)
              clear hK K
              try simp only [Act.put, List.setIfInBounds_toArray, List.set_cons_zero, List.set_cons_succ]
              refine wpAnyH_ready (rs := [5]) (by kernel_rfl) (by simp) ?_
              refine AllReadyH.cons rfl (fun K hK => ?_) AllReadyH.nil
              go_simp
              refine (PB.out _ hHeld.1 hHeld.2.1 hHeld.2.2.1 hHeld.2.2.2.1 hHeld.2.2.2.2.1 hHeld.2.2.2.2.2.1 hHeld.2.2.2.2.2.2).mono ?_
              clear hHeld
              rintro e w9 ⟨rfl, hHeld⟩
              go_wp2_with fail
              refine hK.out _ _ hHeld (fun hHeld => ?_)
              clear hK K
              try simp only [Act.put, List.setIfInBounds_toArray, List.set_cons_zero, List.set_cons_succ]
              refine wpAnyH_take (i := 6) (v := ?va6) rfl (by kernel_rfl) (by kernel_rfl) (by kernel_rfl) ?hQ6 ?hy6 (by assumption) ?re6
              case hy6 =>
                first
                | (refine .inl ⟨rfl, ?_⟩
                   intro w hSw
                   try dsimp only at hSw
                   go_simp
                   done)
                | (refine .inl ⟨rfl, ?_⟩
                   intro w hSw
                   try dsimp only at hSw
                   go_simp
                   with_reducible rfl)
              case hQ6 => exact fun _ _ _ h => h
              try simp only [Act.put, List.setIfInBounds_toArray, List.set_cons_zero, List.set_cons_succ]
              refine wpAnyH_take (i := 7) (v := ?va7) rfl (by kernel_rfl) (by kernel_rfl) (by kernel_rfl) ?hQ7 ?hy7 (by assumption) ?re7
              case hy7 =>
                first
                | (refine .inl ⟨rfl, ?_⟩
                   intro w hSw
                   try dsimp only at hSw
                   go_simp
                   done)
                | (refine .inl ⟨rfl, ?_⟩
                   intro w hSw
                   try dsimp only at hSw
                   go_simp
                   with_reducible rfl)
              case hQ7 => exact fun _ _ _ h => h
              try simp only [Act.put, List.setIfInBounds_toArray, List.set_cons_zero, List.set_cons_succ]
              refine wpAnyH_take (i := 8) (v := ?va8) rfl (by kernel_rfl) (by kernel_rfl) (by kernel_rfl) ?hQ8 ?hy8 (by assumption) ?re8
              case hy8 =>
                first
                | (refine .inl ⟨rfl, ?_⟩
                   intro w hSw
                   try dsimp only at hSw
                   go_simp
                   done)
                | (refine .inl ⟨rfl, ?_⟩
                   intro w hSw
                   try dsimp only at hSw
                   go_simp
                   with_reducible rfl)
              case hQ8 => exact fun _ _ _ h => h
              try simp only [Act.put, List.setIfInBounds_toArray, List.set_cons_zero, List.set_cons_succ]
              refine wpAnyH_take (i := 9) (v := ?va9) rfl (by kernel_rfl) (by kernel_rfl) (by kernel_rfl) ?hQ9 ?hy9 (by assumption) ?re9
              case hy9 =>
                first
                | (refine .inl ⟨rfl, ?_⟩
                   intro w hSw
                   try dsimp only at hSw
                   go_simp
                   done)
                | (refine .inl ⟨rfl, ?_⟩
                   intro w hSw
                   try dsimp only at hSw
                   go_simp
                   with_reducible rfl)
              case hQ9 => exact fun _ _ _ h => h
              try simp only [Act.put, List.setIfInBounds_toArray, List.set_cons_zero, List.set_cons_succ]
              refine wpAnyH_ready (rs := [10]) (by kernel_rfl) (by simp) ?_
              refine AllReadyH.cons rfl (fun K hK => ?_) AllReadyH.nil
              go_simp
              refine (PM.out _ hHeld.1 hHeld.2.1 hHeld.2.2.1 hHeld.2.2.2.1 hHeld.2.2.2.2.1 hHeld.2.2.2.2.2.1 hHeld.2.2.2.2.2.2).mono ?_
              clear hHeld
              rintro e w9 ⟨rfl, hHeld⟩
              go_wp2_with fail
              refine hK.out _ _ hHeld (fun hHeld => ?_)
              clear hK K
              try simp only [Act.put, List.setIfInBounds_toArray, List.set_cons_zero, List.set_cons_succ]
              refine wpAnyH_take (i := 11) (v := ?va11) rfl (by kernel_rfl) (by kernel_rfl) (by kernel_rfl) ?hQ11 ?hy11 (by assumption) ?re11
              case hy11 =>
                first
                | (refine .inl ⟨rfl, ?_⟩
                   intro w hSw
                   try dsimp only at hSw
                   go_simp
                   done)
                | (refine .inl ⟨rfl, ?_⟩
                   intro w hSw
                   try dsimp only at hSw
                   go_simp
                   with_reducible rfl)
              case hQ11 => exact fun _ _ _ h => h
              try simp only [Act.put, List.setIfInBounds_toArray, List.set_cons_zero, List.set_cons_succ]
              refine wpAnyH_take (i := 12) (v := undef) rfl (by kernel_rfl) (by kernel_rfl) (by kernel_rfl) ?hQ12 (.inr ⟨?hw12, rfl⟩) (by assumption) ?re12
              case hw12 =>
                first
                | (go_simp
                   done)
                | (go_simp
                   exact (show ¬ (none : Option Bool) = some true by decide))
              case hQ12 => exact fun _ _ _ h => h
              try simp only [Act.put, List.setIfInBounds_toArray, List.set_cons_zero, List.set_cons_succ]
              refine wpAnyH_take (i := 13) (v := undef) rfl (by kernel_rfl) (by kernel_rfl) (by kernel_rfl) ?hQ13 (.inr ⟨?hw13, rfl⟩) (by assumption) ?re13
              case hw13 =>
                first
                | (go_simp
                   done)
                | (go_simp
                   exact (show ¬ (none : Option Bool) = some true by decide))
              case hQ13 => exact fun _ _ _ h => h
              try simp only [Act.put, List.setIfInBounds_toArray, List.set_cons_zero, List.set_cons_succ]
              refine wpAnyH_take (i := 14) (v := undef) rfl (by kernel_rfl) (by kernel_rfl) (by kernel_rfl) ?hQ14 (.inr ⟨?hw14, rfl⟩) (by assumption) ?re14
              case hw14 =>
                first
                | (go_simp
                   done)
                | (go_simp
                   exact (show ¬ (none : Option Bool) = some true by decide))
              case hQ14 => exact fun _ _ _ h => h
              try simp only [Act.put, List.setIfInBounds_toArray, List.set_cons_zero, List.set_cons_succ]
              refine wpAnyH_take (i := 15) (v := undef) rfl (by kernel_rfl) (by kernel_rfl) (by kernel_rfl) ?hQ15 (.inr ⟨?hw15, rfl⟩) (by assumption) ?re15
              case hw15 =>
                first
                | (go_simp
                   done)
                | (go_simp
                   exact (show ¬ (none : Option Bool) = some true by decide))
              case hQ15 => exact fun _ _ _ h => h
              try simp only [Act.put, List.setIfInBounds_toArray, List.set_cons_zero, List.set_cons_succ]
              refine wpAnyH_ready (rs := [16]) (by kernel_rfl) (by simp) ?_
              refine AllReadyH.cons rfl (fun K hK => ?_) AllReadyH.nil
              go_simp
              refine hK.out _ _ hHeld (fun hHeld => ?_)
              clear hK K
              try simp only [Act.put, List.setIfInBounds_toArray, List.set_cons_zero, List.set_cons_succ]
              refine wpAnyH_ready (rs := [17]) (by kernel_rfl) (by simp) ?_
              refine AllReadyH.cons rfl (fun K hK => ?_) AllReadyH.nil
              go_simp
              refine hK.out _ _ hHeld (fun hHeld => ?_)
              clear hK K
              try simp only [Act.put, List.setIfInBounds_toArray, List.set_cons_zero, List.set_cons_succ]
              refine wpAnyH_done (by kernel_rfl) ?_ _
              refine NoPanic.normal ?_
              obtain ⟨hs1, hs2, hs3, hs4, hs5, hs6, hs7⟩ := hHeld
              all_goals
                go_wp2_with fail
                go_roundw
                case rel => exact ⟨k + 1, by omega, by go_num, HDK9.out.below hs7, HX9.out.then_ hs7⟩
                case measure => simp [intOf]; omega
            · obtain rfl : q = true := HRQ.out rfl
              go_region_held3 (fun W => W.cell? ⟨g4, 0, none⟩ = some (.slice A st.length c) ∧ W.cell? ⟨g5, 0, none⟩ = some (.slice B bk.length cb) ∧ W.cell? ⟨g7, 0, none⟩ = some (.slice B7 (st.length + 1) c7) ∧ W.cell? ⟨g9, 0, none⟩ = some (.int .i64 g.1) ∧ W.cell? ⟨g9, 1, none⟩ = some (.string t) ∧ W.cell? ⟨g9, 2, none⟩ = some (.slice A9 g.2.2.length c9) ∧ Below w9.heap.size w9 W)
                (first | exact ⟨hs1, hs2, hs3, hs4, hs5, hs6, hs7⟩ | exact ⟨a1, a2, a3, b1, b2, b3, a7⟩ | exact ⟨a1d, a2d, a3d, b1d, b2d, b3d, a7d⟩)
                (first
                  | (go_at_call 29; (first | (with_reducible refine (PE.out _ hs1 hs2 hs3 hs4 hs5 hs6 hs7).mono ?_) | (with_reducible refine (PB.out _ hs1 hs2 hs3 hs4 hs5 hs6 hs7).mono ?_) | (with_reducible refine (PM.out _ hs1 hs2 hs3 hs4 hs5 hs6 hs7).mono ?_) | (with_reducible refine (PE.out w9.drew a1d a2d a3d b1d b2d b3d a7d).mono ?_) | (with_reducible refine (PB.out w9.drew a1d a2d a3d b1d b2d b3d a7d).mono ?_) | (with_reducible refine (PM.out w9.drew a1d a2d a3d b1d b2d b3d a7d).mono ?_) | fail); rintro e wn ⟨rfl, hs1, hs2, hs3, hs4, hs5, hs6, hs7⟩)
                  | fail)
              all_goals
                go_wp2_with fail
                go_roundw
                case rel => exact ⟨k + 1, by omega, by go_num, HDK9.out.below hs7, HX9.out.then_ hs7⟩
                case measure => simp [intOf]; omega
          · obtain rfl : k = 8 := by omega
            obtain ⟨a1, a2, a3⟩ := six_ex x1 x2 x3 hd4n hd5 h7d HEX.out
            have HB := hide (Ex.below HB1.out HB1.out.size (by rw [HD.out]; exact Nat.le_refl _) (HEX7.out.trans HEX.out))
            have AW := hide (sawake_any wr (HMX.out.below HB.out))
            have hwr2 : IntKind.i64.wrap ((st.length : Int) + 1) = (st.length : Int) + 1 := IntWalk.i64_in _ (by omega)
            go_wp2_with fail
            refine AW.out.mono ?_
            rintro e w9 ⟨rfl, hb9⟩
            have z1 := cell_grows hb9 _ _ a1
            have z3 := cell_grows hb9 _ _ a3
            have HB9 := hide (HB.out.trans (hb9.mono HB.out.size))
            clear hb9 a1 a2 a3
            go_wp2_with fail
            go_ret
            exact ⟨rfl, HB9.out⟩
end Go.Proofs.YtepibepgfackkaaDoor
