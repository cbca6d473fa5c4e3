/- The law NameOrder, its walk. -/
import Derived.Test.YtepibepgfackkaaDoorNamZ
import Derived.Test.YtepibepgfackkaaDoorNamT
import Derived.Deep.RegionHeld3
import Derived.Deep.DeepCutAuto
namespace Go.Proofs.YtepibepgfackkaaDoor
open Go.RowKit

/-- the first v of a slice of relative names -/
theorem sl_hi (A : Option Addr) (n c v : Nat) (hv : v ≤ c) (W : World) : (Instr.slice 22 (.slice A n c) none (some (.int .i64 (v : Int))) none).run Tryd.prog W = .ok (.slice A v c) W := by
  have ht : Tryd.prog.underlying 22 = some (.slice (Tryd.prog.elem 22)) := by kernel_rfl
  have hh := run_slice_h (P := Tryd.prog) (w := W) 22 A n c ht .i64 (v : Int) (by omega) (by omega)
  refine hh.trans ?_
  have hs : (sizeOf (Tryd.prog.elem 22)).run Tryd.prog W = .ok 1 W := by kernel_rfl
  rw [hs]
  cases A <;> simp [Result.andThen, sliced, Addr.add]

/-- block g is a variable that holds a name; the deck lies in block d -/
def NmAt (d : Nat) (n : Name) (g : Nat) (w : World) : Prop :=
  ∃ (A : Option Addr) (c : Nat), NB g (.slice A n.length c) w ∧ g ≠ d ∧ Sl RRdn 1 w (fun k => k < w.heap.size ∧ k ≠ d ∧ k ≠ g) n [.slice A n.length c]
theorem NmAt.ex {d g : Nat} {n : Name} {w w' : World} (h : NmAt d n g w) (hx : Ex d w w') : NmAt d n g w' := by
  obtain ⟨A, c, h1, h2, h3⟩ := h
  exact ⟨A, c, h1.ex hx h2, h2, (Sl.ok RRdn.ok).mono h3 (fun k hk => hx.at_ hk.1 hk.2.1) (fun k hk => ⟨Nat.lt_of_lt_of_le hk.1 hx.size, hk.2⟩)⟩
theorem NmAt.new {d : Nat} {n : Name} {w : World} {A : Option Addr} {c : Nat} (h : Sl RRdn 1 w (Nd d w.heap.size) n [.slice A n.length c]) (hd : d < w.heap.size) : NmAt d n w.heap.size (w.alloc (.cells #[.slice A n.length c] 24)) :=
  ⟨A, c, heap_alloc_new w _, by omega, (Sl.ok RRdn.ok).mono h (fun k hk => Below.heap_alloc w _ k hk.1) (fun k hk => ⟨by have := hk.1; simp; omega, hk.2, by have := hk.1; omega⟩)⟩
theorem NmAt.store {d g : Nat} {n : Name} {w : World} {u : Value} {A : Option Addr} {c : Nat} (hg : NB g u w) (hgd : g ≠ d) (h : Sl RRdn 1 w (fun k => k < w.heap.size ∧ k ≠ d ∧ k ≠ g) n [.slice A n.length c]) : NmAt d n g (w.setCell ⟨g, 0, none⟩ (.slice A n.length c)) :=
  ⟨A, c, hg.store _, hgd, (Sl.ok RRdn.ok).mono h (fun k hk => Below.heap_setCell w _ _ k hk.2.2) (fun k hk => ⟨by have := hk.1; simp; omega, hk.2⟩)⟩
theorem NmAt.sl {d g : Nat} {n : Name} {w : World} (h : NmAt d n g w) : ∃ (A : Option Addr) (c : Nat), w.cell? ⟨g, 0, none⟩ = some (.slice A n.length c) ∧ n.length ≤ c ∧ g ≠ d ∧ Sl RRdn 1 w (Nd d w.heap.size) n [.slice A n.length c] := by
  obtain ⟨A, c, h1, h2, h3⟩ := h
  exact ⟨A, c, h1.facts.1, h3.len_.2.1, h2, (Sl.ok RRdn.ok).mono h3 (fun _ _ => rfl) (fun k hk => ⟨hk.1, hk.2.1⟩)⟩

/-- the state of a region that reads one name and turns the deck -/
def NxPost (d ga n : Nat) (u : Value) (w3 W : World) (e : Ending) (w9 : World) : Prop :=
  ∃ v : Nat, v ≤ n ∧ e = .returned (.int .i64 (v : Int)) ∧ w9.cell? ⟨ga, 0, none⟩ = some u ∧ DeckAt w9 d ∧ Ex d w3 w9 ∧ Ex d W w9
theorem next_held {d ga : Nat} {u : Value} {w3 W : World} {n : Nat} {N : Int} (hN : N = (n : Int) + 1) (hn2 : n ≤ 1000) (hga : ga ≠ d) (h1 : W.cell? ⟨ga, 0, none⟩ = some u) (h2 : DeckAt W d) (h3 : Ex d w3 W) :
    Calls Tryd.prog 17 #[.pointer (some ⟨d, 0, none⟩), .int .i64 N] W (NxPost d ga n u w3 W) := by
  subst hN
  refine (Next_any d (n + 1) (by omega) (by omega) W h2).mono fun e w9 ⟨v, hv, he, hdk, hex⟩ => ⟨v, by omega, he, ?_, hdk, h3.trans hex, hex⟩
  exact (hex.cell (p := ⟨ga, 0, none⟩) (World.block_lt_of_cell? W ⟨ga, 0, none⟩ h1) hga).trans h1
/-- m spells the beginning of a -/
def SubSp (a m : Name) : Prop := ∃ k, SpN (a.take k) m
theorem SubSp.bnd {B : Nat} {a m : Name} (h : SubSp a m) (ha : BndN B a) : BndN (B + 1) m := by
  obtain ⟨k, hk⟩ := h
  exact hk.bnd ha.take
theorem SubSp.pre {a m : Name} (h : SubSp a m) : NPre a m := by
  obtain ⟨k, hk⟩ := h
  exact (NPre.take a k).of_same hk.same
def SpPost (d ga : Nat) (a : Name) (u : Value) (w3 W : World) (e : Ending) (w9 : World) : Prop :=
  ∃ (m : Name) (A : Option Addr) (c : Nat), SubSp a m ∧ e = .returned (.agg #[.slice A m.length c]) ∧ Sl RRdn 1 w9 (Btw W.heap.size w9.heap.size) m [.slice A m.length c] ∧ w9.cell? ⟨ga, 0, none⟩ = some u ∧ DeckAt w9 d ∧ Ex d w3 w9 ∧ Ex d W w9
theorem spelled_held {d ga B : Nat} {u : Value} {w3 W : World} {n : Name} {A : Option Addr} {c v : Nat} (hB : B ≤ 1000) (hn : BndN B n) (hsl : Sl RRdn 1 w3 (Nd d w3.heap.size) n [.slice A n.length c]) (hga : ga ≠ d) (hv : v ≤ n.length)
    (h1 : W.cell? ⟨ga, 0, none⟩ = some u) (h2 : DeckAt W d) (h3 : Ex d w3 W) :
    Calls Tryd.prog 16 #[.pointer (some ⟨d, 0, none⟩), .agg #[.slice A v c]] W (SpPost d ga n u w3 W) := by
  have hsl2 := (Sl.ok RRdn.ok).ex hsl h3
  have hl : (n.take v).length = v := by rw [List.length_take]; omega
  have hsl3 : Sl RRdn 1 W (Nd d W.heap.size) (n.take v) [.slice A (n.take v).length c] := by
    have : Sl RRdn 1 W (Nd d W.heap.size) (n.take v ++ n.drop v) [.slice A n.length c] := by rw [List.take_append_drop]; exact hsl2
    exact this.take_
  rw [show (Value.slice A v c) = .slice A (n.take v).length c by rw [hl]]
  refine (spelled_any d B hB (n.take v) hn.take A c W h2 hsl3).mono fun e w9 ⟨m, x, hsp, he, hs9, hdk, hex⟩ => ?_
  obtain ⟨A', c', hx⟩ := hs9.shape
  subst hx
  exact ⟨m, A', c', ⟨v, hsp⟩, he, hs9, (hex.cell (p := ⟨ga, 0, none⟩) (World.block_lt_of_cell? W ⟨ga, 0, none⟩ h1) hga).trans h1, hdk, h3.trans hex, hex⟩
/-- what a region that spells a name leaves -/
def SpCut (d : Nat) (a : Name) (w3 : World) (s : Value) (wx : World) : Prop := ∃ (g : Nat) (m : Name), s = .pointer (some ⟨g, 0, none⟩) ∧ SubSp a m ∧ NmAt d m g wx ∧ DeckAt wx d ∧ Ex d w3 wx
theorem spcut_new {d : Nat} {a m : Name} {w3 W w9 : World} {A : Option Addr} {c : Nat} (hs : SubSp a m) (h : Sl RRdn 1 w9 (Btw W.heap.size w9.heap.size) m [.slice A m.length c]) (hW : d < W.heap.size) (h2 : DeckAt w9 d) (h3 : Ex d w3 w9) :
    SpCut d a w3 (.pointer (some ⟨w9.heap.size, 0, none⟩)) (w9.alloc (.cells #[.slice A m.length c] 24)) :=
  ⟨_, m, rfl, hs, NmAt.new ((Sl.ok RRdn.ok).mono h (fun _ _ => rfl) (fun k hk => ⟨hk.2, by have := hk.1; omega⟩)) h2.lt, h2.alloc _, h3.alloc _⟩
theorem spcut_set {d g : Nat} {a m : Name} {w3 W w9 : World} {A : Option Addr} {c : Nat} {u : Value} (hs : SubSp a m) (h : Sl RRdn 1 w9 (Btw W.heap.size w9.heap.size) m [.slice A m.length c]) (hg : NB g u w9) (hd : d < g) (hgW : g < W.heap.size) (hg3 : w3.heap.size ≤ g) (h2 : DeckAt w9 d) (h3 : Ex d w3 w9) :
    SpCut d a w3 (.pointer (some ⟨g, 0, none⟩)) (w9.setCell ⟨g, 0, none⟩ (.slice A m.length c)) :=
  ⟨g, m, rfl, hs, NmAt.store hg (by omega) ((Sl.ok RRdn.ok).mono h (fun _ _ => rfl) (fun k hk => ⟨hk.2, by have := hk.1; omega, by have := hk.1; omega⟩)), h2.set_ hd _, h3.setNew hg3 _⟩

abbrev ZN : Obj := .cells #[.slice none 0 0] 24
theorem nb_new (w : World) : NB w.heap.size (.slice none 0 0) (w.alloc ZN) := heap_alloc_new w _
theorem nb_newd (w : World) : NB w.heap.size (.slice none 0 0) (w.alloc ZN).drew := heap_alloc_new w _
theorem alc {w : World} {p : Addr} {u : Value} (h : w.cell? p = some u) (o : Obj) : (w.alloc o).cell? p = some u := cell_grows ((Below.refl _ _).alloc (Nat.le_refl _) o) _ _ h
theorem stS {d ga g : Nat} {u x : Value} {w3 W : World} (h1 : W.cell? ⟨ga, 0, none⟩ = some u) (h2 : DeckAt W d) (h3 : Ex d w3 W) (hga : ga < w3.heap.size) (hd : d < w3.heap.size) (hg : w3.heap.size ≤ g) :
    (W.setCell ⟨g, 0, none⟩ x).cell? ⟨ga, 0, none⟩ = some u ∧ DeckAt (W.setCell ⟨g, 0, none⟩ x) d ∧ Ex d w3 (W.setCell ⟨g, 0, none⟩ x) :=
  ⟨(World.cell?_of_block (a := ⟨ga, 0, none⟩) (Below.heap_setCell W ⟨g, 0, none⟩ x ga (by show ga ≠ g; omega))).trans h1, h2.set_ (by omega) _, h3.setNew hg _⟩

theorem Within_v (n m : Name) (A B : Option Addr) (c d : Nat) (q : Bool) (hq : withinN n m = q) (w : World) (h : Sl RRdn 1 w (Lt w.heap.size) n [.slice A n.length c]) (h2 : Sl RRdn 1 w (Lt w.heap.size) m [.slice B m.length d]) (hs1 : SmallN n) (hs2 : SmallN m) :
    Calls Tryd.prog 20 #[.agg #[.slice A n.length c], .agg #[.slice B m.length d]] w fun e w' => e = .returned (.bool q) ∧ Below w.heap.size w w' := hq ▸ Within_any n m A B c d w h h2 hs1 hs2
theorem four_held {P : Program} {f : FuncId} {args : Array Value} {W wx : World} {q : Bool} {g1 g2 g3 g4 : Nat} {u1 u2 u3 u4 : Value} (hc : Calls P f args W fun e w' => e = .returned (.bool q) ∧ Below W.heap.size W w')
    (h1 : W.cell? ⟨g1, 0, none⟩ = some u1) (h2 : W.cell? ⟨g2, 0, none⟩ = some u2) (h3 : W.cell? ⟨g3, 0, none⟩ = some u3) (h4 : W.cell? ⟨g4, 0, none⟩ = some u4) (h5 : Below wx.heap.size wx W) :
    Calls P f args W fun e w9 => e = .returned (.bool q) ∧ w9.cell? ⟨g1, 0, none⟩ = some u1 ∧ w9.cell? ⟨g2, 0, none⟩ = some u2 ∧ w9.cell? ⟨g3, 0, none⟩ = some u3 ∧ w9.cell? ⟨g4, 0, none⟩ = some u4 ∧ Below wx.heap.size wx w9 :=
  hc.mono fun _ _ ⟨he, hb⟩ => ⟨he, cell_grows hb _ _ h1, cell_grows hb _ _ h2, cell_grows hb _ _ h3, cell_grows hb _ _ h4, h5.trans (hb.mono h5.size)⟩


set_option maxRecDepth 100000 in
set_option maxHeartbeats 16000000 in
theorem NameOrder_any (l : List Int) (A0 : Option Addr) (n0 c0 : Nat) (w : World) (hmx : Mx w) (h : Sl RInt 1 w (Lt w.heap.size) l [.slice A0 n0 c0]) :
    Calls Tryd.prog 5 #[.slice A0 n0 c0] w fun e w' => e = .returned (.bool true) ∧ Below w.heap.size w w' := by
  have HMX := hide hmx
  have K := hide h
  clear hmx h
  go_enter Tryd.func5, Tryd.ntmps5
  go_wp2_with fail
  refine (New_any l A0 n0 c0 _ K.out).mono ?_
  rintro e w1 ⟨rfl, hdk1, hb1⟩
  obtain ⟨d, hd⟩ : ∃ d, d = w.heap.size := ⟨_, rfl⟩
  rw [← hd] at hdk1 ⊢
  have HD := hide hd
  have HB1 := hide hb1
  have HDK1 := hide hdk1
  clear hd hb1 hdk1
  go_wp2_with fail
  refine (Name_any d _ HDK1.out).mono ?_
  rintro e w2 ⟨a, va, hga, rfl, hsl2, hdk2, hex2⟩
  obtain ⟨A1, c1, hva⟩ := hsl2.shape
  subst hva
  have hl1 : a.length ≤ 3 := hga.1
  have HNA := hide (NmAt.new ((Sl.ok RRdn.ok).mono hsl2 (fun _ _ => rfl) (fun k hk => ⟨hk.2, by have := hk.1; have := HDK1.out.lt; omega⟩)) hdk2.lt)
  have HEXA := hide (hex2.alloc (.cells #[.slice A1 a.length c1] 24))
  have HDKA := hide (hdk2.alloc (.cells #[.slice A1 a.length c1] 24))
  have HGA := hide hga
  clear hga hex2 hdk2 hsl2
  go_upto_region 3 with (fail)
  obtain ⟨w3, hw3⟩ : ∃ w3, w3 = w2.alloc (.cells #[.slice A1 a.length c1] 24) := ⟨_, rfl⟩
  obtain ⟨ga, hga⟩ : ∃ ga, ga = w2.heap.size := ⟨_, rfl⟩
  rw [← hw3] at HNA HEXA HDKA ⊢
  rw [← hga] at HNA ⊢
  clear hw3 hga
  have BA := hide HGA.out.bnd
  obtain ⟨A1, c1, hx1, hc1, hgd, hsl3⟩ := HNA.out.sl
  have HSL3 := hide hsl3
  have hx2 := HDKA.out
  have hdl := hx2.lt
  have hgl : ga < w3.heap.size := World.block_lt_of_cell? w3 ⟨ga, 0, none⟩ hx1
  have hx3 : Ex d w3 w3 := Ex.refl _ _
  have hx2d : DeckAt w3.drew d := hx2
  have hx3d : Ex d w3 w3.drew := hx3.drew
  have hwr : IntKind.i64.wrap ((a.length : Int) + 1) = (a.length : Int) + 1 := IntWalk.i64_in _ (by omega)
  have NX := hide (fun W h1 h2 h3 => next_held (d := d) (ga := ga) (u := .slice A1 a.length c1) (w3 := w3) (W := W) (n := a.length) (N := (a.length : Int) + 1) rfl (by omega) hgd h1 h2 h3)
  have SP := hide (fun v hv W h1 h2 h3 => spelled_held (d := d) (ga := ga) (B := 15) (u := .slice A1 a.length c1) (w3 := w3) (W := W) (v := v) (by omega) BA.out HSL3.out hgd hv h1 h2 h3)
  have SLH := hide (fun v (hv : v ≤ c1) W => sl_hi A1 a.length c1 v hv W)
  clear hsl3
  go_upto_region 3 with (fail)
  go_cut [5] (fun s wx => SpCut d a w3 s wx)
  case first =>
    go_region_held3 (fun W => W.cell? ⟨ga, 0, none⟩ = some (.slice A1 a.length c1) ∧ DeckAt W d ∧ Ex d w3 W)
      (first | exact ⟨hs1, hs2, hs3⟩ | exact ⟨alc hs1 _, hs2.alloc _, hs3.alloc _⟩ | exact stS hs1 hs2 hs3 hgl hdl hz9 | exact stS hs1 hs2 hs3 hgl hdl (Nat.le_refl _) | exact ⟨hx1, hx2, hx3⟩ | exact ⟨hx1, hx2d, hx3d⟩ | exact ⟨alc hx1 _, hx2d.alloc _, hx3d.alloc _⟩)
      (first
        | (go_at_call 17; refine (NX.out w3.drew hx1 hx2d hx3d).mono ?_; rintro e w9 ⟨v9, hv9, rfl, hs1, hs2, hs3, hs4⟩; have hz9 := hs3.size; have q9 := SLH.out v9 (Nat.le_trans hv9 hc1))
        | (go_at_call 17; refine (NX.out (w3.alloc ZN).drew (alc hx1 _) (hx2.alloc _) (hx3.alloc _).drew).mono ?_; rintro e w9 ⟨v9, hv9, rfl, hs1, hs2, hs3, hs4⟩; have hz9 := hs3.size; have hz4 := hs4.size; have q9 := SLH.out v9 (Nat.le_trans hv9 hc1); have hnb := (nb_newd w3).ex hs4 (Nat.ne_of_gt hdl))
        | (go_at_call 16; refine (SP.out v9 hv9 w9 hs1 hs2 hs3).mono ?_; rintro e wn ⟨m, A2, c2, hsp, rfl, hslm, hs1, hs2, hs3, hs4⟩; have hnb := hnb.ex hs4 (Nat.ne_of_gt hdl); have q5 := hnb.facts.1; have q6 := hnb.facts.2)
        | (go_at_call 16; refine (SP.out v9 hv9 (w9.alloc ZN) (alc hs1 _) (hs2.alloc _) (hs3.alloc _)).mono ?_; rintro e wn ⟨m, A2, c2, hsp, rfl, hslm, hs1, hs2, hs3, hs4⟩; have hnb := (nb_new w9).ex hs4 (Nat.ne_of_gt (Nat.lt_of_lt_of_le hdl hz9)); have q5 := hnb.facts.1; have q6 := hnb.facts.2)
        | (go_at_call 16; refine (SP.out v9 hv9 w9 hs1 hs2 hs3).mono ?_; rintro e wn ⟨m, A2, c2, hsp, rfl, hslm, hs1, hs2, hs3, hs4⟩))
    all_goals
      go_wp2_with fail
      go_meet
      first
      | exact spcut_new hsp hslm (by omega) hs2 hs3
      | exact spcut_set hsp hslm hnb hdl (by simp at hz4; omega) (Nat.le_refl _) hs2 hs3
      | exact spcut_set hsp hslm hnb (by omega) (by simp) hz9 hs2 hs3
  case rest =>
  obtain ⟨gb, b, rfl, hsb, hnb, hdkb, hexb⟩ := hcut
  obtain ⟨w4, rfl⟩ : ∃ w4 : World, w4 = wc := ⟨_, rfl⟩
  have HNA := hide (HNA.out.ex hexb)
  have HEXA := hide (HEXA.out.trans hexb)
  have HNB := hide hnb
  have HSB := hide hsb
  have HDKB := hide hdkb
  have BB := hide (hsb.bnd BA.out)
  have hlb : b.length ≤ 10 := BB.out.1
  clear hnb hsb hdkb hexb NX SP SLH HSL3 hx1 hx2 hx3 hx2d hx3d hwr hgd hdl hgl hc1
  obtain ⟨A1, c1, hx1, hc1, hgd, hsl3⟩ := HNB.out.sl
  have HSL3 := hide hsl3
  have hx2 := HDKB.out
  have hdl := hx2.lt
  have hgl : gb < w4.heap.size := World.block_lt_of_cell? w4 ⟨gb, 0, none⟩ hx1
  have hx3 : Ex d w4 w4 := Ex.refl _ _
  have hx2d : DeckAt w4.drew d := hx2
  have hx3d : Ex d w4 w4.drew := hx3.drew
  have hwr : IntKind.i64.wrap ((b.length : Int) + 1) = (b.length : Int) + 1 := IntWalk.i64_in _ (by omega)
  have NX := hide (fun W h1 h2 h3 => next_held (d := d) (ga := gb) (u := .slice A1 b.length c1) (w3 := w4) (W := W) (n := b.length) (N := (b.length : Int) + 1) rfl (by omega) hgd h1 h2 h3)
  have SP := hide (fun v hv W h1 h2 h3 => spelled_held (d := d) (ga := gb) (B := 16) (u := .slice A1 b.length c1) (w3 := w4) (W := W) (v := v) (by omega) BB.out HSL3.out hgd hv h1 h2 h3)
  have SLH := hide (fun v (hv : v ≤ c1) W => sl_hi A1 b.length c1 v hv W)
  clear hsl3
  go_upto_region 4 with (fail)
  go_cut [6] (fun s wx => SpCut d b w4 s wx)
  case first =>
    go_region_held3 (fun W => W.cell? ⟨gb, 0, none⟩ = some (.slice A1 b.length c1) ∧ DeckAt W d ∧ Ex d w4 W)
      (first | exact ⟨hs1, hs2, hs3⟩ | exact ⟨alc hs1 _, hs2.alloc _, hs3.alloc _⟩ | exact stS hs1 hs2 hs3 hgl hdl hz9 | exact stS hs1 hs2 hs3 hgl hdl (Nat.le_refl _) | exact ⟨hx1, hx2, hx3⟩ | exact ⟨hx1, hx2d, hx3d⟩ | exact ⟨alc hx1 _, hx2d.alloc _, hx3d.alloc _⟩)
      (first
        | (go_at_call 17; refine (NX.out w4.drew hx1 hx2d hx3d).mono ?_; rintro e w9 ⟨v9, hv9, rfl, hs1, hs2, hs3, hs4⟩; have hz9 := hs3.size; have q9 := SLH.out v9 (Nat.le_trans hv9 hc1))
        | (go_at_call 17; refine (NX.out (w4.alloc ZN).drew (alc hx1 _) (hx2.alloc _) (hx3.alloc _).drew).mono ?_; rintro e w9 ⟨v9, hv9, rfl, hs1, hs2, hs3, hs4⟩; have hz9 := hs3.size; have hz4 := hs4.size; have q9 := SLH.out v9 (Nat.le_trans hv9 hc1); have hnb := (nb_newd w4).ex hs4 (Nat.ne_of_gt hdl))
        | (go_at_call 16; refine (SP.out v9 hv9 w9 hs1 hs2 hs3).mono ?_; rintro e wn ⟨m, A2, c2, hsp, rfl, hslm, hs1, hs2, hs3, hs4⟩; have hnb := hnb.ex hs4 (Nat.ne_of_gt hdl); have q5 := hnb.facts.1; have q6 := hnb.facts.2)
        | (go_at_call 16; refine (SP.out v9 hv9 (w9.alloc ZN) (alc hs1 _) (hs2.alloc _) (hs3.alloc _)).mono ?_; rintro e wn ⟨m, A2, c2, hsp, rfl, hslm, hs1, hs2, hs3, hs4⟩; have hnb := (nb_new w9).ex hs4 (Nat.ne_of_gt (Nat.lt_of_lt_of_le hdl hz9)); have q5 := hnb.facts.1; have q6 := hnb.facts.2)
        | (go_at_call 16; refine (SP.out v9 hv9 w9 hs1 hs2 hs3).mono ?_; rintro e wn ⟨m, A2, c2, hsp, rfl, hslm, hs1, hs2, hs3, hs4⟩))
    all_goals
      go_wp2_with fail
      go_meet
      first
      | exact spcut_new hsp hslm (by omega) hs2 hs3
      | exact spcut_set hsp hslm hnb hdl (by simp at hz4; omega) (Nat.le_refl _) hs2 hs3
      | exact spcut_set hsp hslm hnb (by omega) (by simp) hz9 hs2 hs3
  case rest =>
  obtain ⟨gc, c, rfl, hsc, hnc, hdkc, hexc⟩ := hcut
  obtain ⟨w5, rfl⟩ : ∃ w5 : World, w5 = wc := ⟨_, rfl⟩
  have HNA := hide (HNA.out.ex hexc)
  have HNB := hide (HNB.out.ex hexc)
  have HEXA := hide (HEXA.out.trans hexc)
  have HNC := hide hnc
  have HSC := hide hsc
  have HDKC := hide hdkc
  have BC := hide (hsc.bnd BB.out)
  clear hnc hsc hdkc hexc NX SP SLH HSL3 hx1 hx2 hx3 hx2d hx3d hwr hgd hdl hgl hc1 hl1 hlb
  go_wp2_with fail
  refine (Name_any d _ HDKC.out).mono ?_
  rintro e w6 ⟨p, vp, hgp, rfl, hslp, hdkp, hexp⟩
  obtain ⟨A4, c4, hvp⟩ := hslp.shape
  subst hvp
  have hnp := NmAt.new ((Sl.ok RRdn.ok).mono hslp (fun _ _ => rfl) (fun k hk => ⟨hk.2, by have := hk.1; have := HDKC.out.lt; omega⟩)) hdkp.lt
  have hex6 := hexp.alloc (.cells #[.slice A4 p.length c4] 24)
  have HNA := hide (HNA.out.ex hex6)
  have HNB := hide (HNB.out.ex hex6)
  have HNC := hide (HNC.out.ex hex6)
  have HEXA := hide (HEXA.out.trans hex6)
  have HNP := hide hnp
  have BP := hide hgp.bnd
  clear hgp hslp hdkp hexp hnp hex6
  go_upto_region 6 with (fail)
  obtain ⟨w7, hw7⟩ : ∃ w7, w7 = w6.alloc (.cells #[.slice A4 p.length c4] 24) := ⟨_, rfl⟩
  obtain ⟨gp, hgp⟩ : ∃ gp, gp = w6.heap.size := ⟨_, rfl⟩
  rw [← hw7] at HNA HNB HNC HNP HEXA ⊢
  rw [← hgp] at HNP ⊢
  clear hw7 hgp
  obtain ⟨Aa, ca, ha1, -, -, hsa⟩ := HNA.out.sl
  obtain ⟨Ab, cb, hb1, -, -, hsb⟩ := HNB.out.sl
  obtain ⟨Ac, cc, hc1, -, -, hsc⟩ := HNC.out.sl
  obtain ⟨Ap, cp, hp1, -, -, hsp⟩ := HNP.out.sl
  have SA := hide ((Sl.ok RRdn.ok).lt hsa)
  have SB := hide ((Sl.ok RRdn.ok).lt hsb)
  have SC := hide ((Sl.ok RRdn.ok).lt hsc)
  have SP := hide ((Sl.ok RRdn.ok).lt hsp)
  have MA := hide (BA.out.small (by omega))
  have MB := hide (BB.out.small (by omega))
  have MC := hide (BC.out.small (by omega))
  have MP := hide (BP.out.small (by omega))
  have HBW := hide (Ex.below HB1.out HB1.out.size (by rw [HD.out]; exact Nat.le_refl _) HEXA.out)
  obtain ⟨q, hq⟩ : ∃ q, matchN a p = q := ⟨_, rfl⟩
  have hq2 : matchN p a = q := by rw [matchN_symm, hq]
  have HWQ := hide (show q = true → withinN a p = true ∧ withinN p a = true from fun h => by
    rw [← hq, matchN_within, Bool.and_eq_true] at h
    exact h)
  have hab : withinN a b = true := (withinN_iff a b).2 HSB.out.pre
  have hbc : withinN b c = true := (withinN_iff b c).2 HSC.out.pre
  have hac : withinN a c = true := (withinN_iff a c).2 (HSB.out.pre.trans HSC.out.pre)
  obtain ⟨r, hr⟩ : ∃ r, withinN b a = r := ⟨_, rfl⟩
  have hmab : matchN a b = r := by rw [matchN_within, hab, hr]; rfl
  have haa : matchN a a = true := (matchN_iff a a).2 (NSame.refl a)
  have hx5 : Below w7.heap.size w7 w7 := Below.refl _ _
  have hx5d : Below w7.heap.size w7 w7.drew := hx5.drew
  have ha1d : w7.drew.cell? ⟨ga, 0, none⟩ = some (.slice Aa a.length ca) := ha1
  have hb1d : w7.drew.cell? ⟨gb, 0, none⟩ = some (.slice Ab b.length cb) := hb1
  have hc1d : w7.drew.cell? ⟨gc, 0, none⟩ = some (.slice Ac c.length cc) := hc1
  have hp1d : w7.drew.cell? ⟨gp, 0, none⟩ = some (.slice Ap p.length cp) := hp1
  have HMW := hide (HMX.out.below HBW.out)
  have CAP := hide (fun W h1 h2 h3 h4 h5 => four_held (wx := w7) (g1 := ga) (g2 := gb) (g3 := gc) (g4 := gp) (u1 := .slice Aa a.length ca) (u2 := .slice Ab b.length cb) (u3 := .slice Ac c.length cc) (u4 := .slice Ap p.length cp) (Match_v a p _ _ _ _ q hq W ((Sl.ok RRdn.ok).below SA.out h5) ((Sl.ok RRdn.ok).below SP.out h5) MA.out MP.out) h1 h2 h3 h4 h5)
  have CPA := hide (fun W h1 h2 h3 h4 h5 => four_held (wx := w7) (g1 := ga) (g2 := gb) (g3 := gc) (g4 := gp) (u1 := .slice Aa a.length ca) (u2 := .slice Ab b.length cb) (u3 := .slice Ac c.length cc) (u4 := .slice Ap p.length cp) (Match_v p a _ _ _ _ q hq2 W ((Sl.ok RRdn.ok).below SP.out h5) ((Sl.ok RRdn.ok).below SA.out h5) MP.out MA.out) h1 h2 h3 h4 h5)
  have CAA := hide (fun W h1 h2 h3 h4 h5 => four_held (wx := w7) (g1 := ga) (g2 := gb) (g3 := gc) (g4 := gp) (u1 := .slice Aa a.length ca) (u2 := .slice Ab b.length cb) (u3 := .slice Ac c.length cc) (u4 := .slice Ap p.length cp) (Match_v a a _ _ _ _ true haa W ((Sl.ok RRdn.ok).below SA.out h5) ((Sl.ok RRdn.ok).below SA.out h5) MA.out MA.out) h1 h2 h3 h4 h5)
  have CAB := hide (fun W h1 h2 h3 h4 h5 => four_held (wx := w7) (g1 := ga) (g2 := gb) (g3 := gc) (g4 := gp) (u1 := .slice Aa a.length ca) (u2 := .slice Ab b.length cb) (u3 := .slice Ac c.length cc) (u4 := .slice Ap p.length cp) (Match_v a b _ _ _ _ r hmab W ((Sl.ok RRdn.ok).below SA.out h5) ((Sl.ok RRdn.ok).below SB.out h5) MA.out MB.out) h1 h2 h3 h4 h5)
  have DAB := hide (fun W h1 h2 h3 h4 h5 => four_held (wx := w7) (g1 := ga) (g2 := gb) (g3 := gc) (g4 := gp) (u1 := .slice Aa a.length ca) (u2 := .slice Ab b.length cb) (u3 := .slice Ac c.length cc) (u4 := .slice Ap p.length cp) (Within_v a b _ _ _ _ true hab W ((Sl.ok RRdn.ok).below SA.out h5) ((Sl.ok RRdn.ok).below SB.out h5) MA.out MB.out) h1 h2 h3 h4 h5)
  have DBC := hide (fun W h1 h2 h3 h4 h5 => four_held (wx := w7) (g1 := ga) (g2 := gb) (g3 := gc) (g4 := gp) (u1 := .slice Aa a.length ca) (u2 := .slice Ab b.length cb) (u3 := .slice Ac c.length cc) (u4 := .slice Ap p.length cp) (Within_v b c _ _ _ _ true hbc W ((Sl.ok RRdn.ok).below SB.out h5) ((Sl.ok RRdn.ok).below SC.out h5) MB.out MC.out) h1 h2 h3 h4 h5)
  have DAC := hide (fun W h1 h2 h3 h4 h5 => four_held (wx := w7) (g1 := ga) (g2 := gb) (g3 := gc) (g4 := gp) (u1 := .slice Aa a.length ca) (u2 := .slice Ab b.length cb) (u3 := .slice Ac c.length cc) (u4 := .slice Ap p.length cp) (Within_v a c _ _ _ _ true hac W ((Sl.ok RRdn.ok).below SA.out h5) ((Sl.ok RRdn.ok).below SC.out h5) MA.out MC.out) h1 h2 h3 h4 h5)
  have DBA := hide (fun W h1 h2 h3 h4 h5 => four_held (wx := w7) (g1 := ga) (g2 := gb) (g3 := gc) (g4 := gp) (u1 := .slice Aa a.length ca) (u2 := .slice Ab b.length cb) (u3 := .slice Ac c.length cc) (u4 := .slice Ap p.length cp) (Within_v b a _ _ _ _ r hr W ((Sl.ok RRdn.ok).below SB.out h5) ((Sl.ok RRdn.ok).below SA.out h5) MB.out MA.out) h1 h2 h3 h4 h5)
  have DAP := hide (fun (hq : q = true) W h1 h2 h3 h4 h5 => four_held (wx := w7) (g1 := ga) (g2 := gb) (g3 := gc) (g4 := gp) (u1 := .slice Aa a.length ca) (u2 := .slice Ab b.length cb) (u3 := .slice Ac c.length cc) (u4 := .slice Ap p.length cp) (Within_v a p _ _ _ _ true (HWQ.out hq).1 W ((Sl.ok RRdn.ok).below SA.out h5) ((Sl.ok RRdn.ok).below SP.out h5) MA.out MP.out) h1 h2 h3 h4 h5)
  have DPA := hide (fun (hq : q = true) W h1 h2 h3 h4 h5 => four_held (wx := w7) (g1 := ga) (g2 := gb) (g3 := gc) (g4 := gp) (u1 := .slice Aa a.length ca) (u2 := .slice Ab b.length cb) (u3 := .slice Ac c.length cc) (u4 := .slice Ap p.length cp) (Within_v p a _ _ _ _ true (HWQ.out hq).2 W ((Sl.ok RRdn.ok).below SP.out h5) ((Sl.ok RRdn.ok).below SA.out h5) MP.out MA.out) h1 h2 h3 h4 h5)
  clear hq hq2 hab hbc hac hr hmab haa hsa hsb hsc hsp
  go_cut [8] (fun s8 wx => s8 = .bool true ∧ Below w7.heap.size w7 wx)
  case first =>
    cases q
    · refine wp_region_noPanic ?_
      refine wp_region_held_drew (S := (fun W => W.cell? ⟨ga, 0, none⟩ = some (.slice Aa a.length ca) ∧ W.cell? ⟨gb, 0, none⟩ = some (.slice Ab b.length cb) ∧ W.cell? ⟨gc, 0, none⟩ = some (.slice Ac c.length cc) ∧ W.cell? ⟨gp, 0, none⟩ = some (.slice Ap p.length cp) ∧ Below w7.heap.size w7 W)) (by kernel_rfl) ⟨ha1d, hb1d, hc1d, hp1d, hx5d⟩ (fun hHeld => ?_)
      refine wpAnyH_take (i := 0) (v := ?va0) rfl (by kernel_rfl) (by kernel_rfl) (by kernel_rfl) ?hQ0 ?hy0 (by assumption) ?re0
      case hy0 =>
        first
        | (refine .inl ⟨rfl, ?_⟩
           intro w hSw
           try dsimp only at hSw
           go_simp
           done)
        | (refine .inl ⟨rfl, ?_⟩
           intro w hSw
           try dsimp only at hSw
           go_simp
           with_reducible rfl)
      case hQ0 => exact fun _ _ _ h => h
      try simp only [Act.put, List.setIfInBounds_toArray, List.set_cons_zero, List.set_cons_succ]
      refine wpAnyH_take (i := 1) (v := ?va1) rfl (by kernel_rfl) (by kernel_rfl) (by kernel_rfl) ?hQ1 ?hy1 (by assumption) ?re1
      case hy1 =>
        first
        | (refine .inl ⟨rfl, ?_⟩
           intro w hSw
           try dsimp only at hSw
           go_simp
           done)
        | (refine .inl ⟨rfl, ?_⟩
           intro w hSw
           try dsimp only at hSw
           go_simp
           with_reducible rfl)
      case hQ1 => exact fun _ _ _ h => h
      try simp only [Act.put, List.setIfInBounds_toArray, List.set_cons_zero, List.set_cons_succ]
      refine wpAnyH_take (i := 3) (v := ?va3) rfl (by kernel_rfl) (by kernel_rfl) (by kernel_rfl) ?hQ3 ?hy3 (by assumption) ?re3
      case hy3 =>
        first
        | (refine .inl ⟨rfl, ?_⟩
           intro w hSw
           try dsimp only at hSw
           go_simp
           done)
        | (refine .inl ⟨rfl, ?_⟩
           intro w hSw
           try dsimp only at hSw
           go_simp
           with_reducible rfl)
      case hQ3 => exact fun _ _ _ h => h
      try simp only [Act.put, List.setIfInBounds_toArray, List.set_cons_zero, List.set_cons_succ]
      refine wpAnyH_take (i := 4) (v := ?va4) rfl (by kernel_rfl) (by kernel_rfl) (by kernel_rfl) ?hQ4 ?hy4 (by assumption) ?re4
      case hy4 =>
        first
        | (refine .inl ⟨rfl, ?_⟩
           intro w hSw
           try dsimp only at hSw
           go_simp
           done)
        | (refine .inl ⟨rfl, ?_⟩
           intro w hSw
           try dsimp only at hSw
           go_simp
           with_reducible rfl)
      case hQ4 => exact fun _ _ _ h => h
      try simp only [Act.put, List.setIfInBounds_toArray, List.set_cons_zero, List.set_cons_succ]
      refine wpAnyH_ready (rs := [2]) (by kernel_rfl) (by simp) ?_
      refine AllReadyH.cons rfl (fun K hK => ?_) AllReadyH.nil
      go_simp
      refine (CAP.out _ hHeld.1 hHeld.2.1 hHeld.2.2.1 hHeld.2.2.2.1 hHeld.2.2.2.2).mono ?_
      clear hHeld
      rintro e w9 ⟨rfl, hHeld⟩
      go_wp2_with fail
      refine hK.out _ _ hHeld (fun hHeld => ?_)
      clear hK K
      try simp only [Act.put, List.setIfInBounds_toArray, List.set_cons_zero, List.set_cons_succ]
      refine wpAnyH_ready (rs := [5]) (by kernel_rfl) (by simp) ?_
      refine AllReadyH.cons rfl (fun K hK => ?_) AllReadyH.nil
      go_simp
      refine (CPA.out _ hHeld.1 hHeld.2.1 hHeld.2.2.1 hHeld.2.2.2.1 hHeld.2.2.2.2).mono ?_
      clear hHeld
      rintro e w9 ⟨rfl, hHeld⟩
      go_wp2_with fail
      refine hK.out _ _ hHeld (fun hHeld => ?_)
      clear hK K
      try simp only [Act.put, List.setIfInBounds_toArray, List.set_cons_zero, List.set_cons_succ]
      refine wpAnyH_take (i := 6) (v := ?va6) rfl (by kernel_rfl) (by kernel_rfl) (by kernel_rfl) ?hQ6 ?hy6 (by assumption) ?re6
      case hy6 =>
        first
        | (refine .inl ⟨rfl, ?_⟩
           intro w hSw
           try dsimp only at hSw
           go_simp
           done)
        | (refine .inl ⟨rfl, ?_⟩
           intro w hSw
           try dsimp only at hSw
           go_simp
           with_reducible rfl)
      case hQ6 => exact fun _ _ _ h => h
      try simp only [Act.put, List.setIfInBounds_toArray, List.set_cons_zero, List.set_cons_succ]
      refine wpAnyH_take (i := 7) (v := ?va7) rfl (by kernel_rfl) (by kernel_rfl) (by kernel_rfl) ?hQ7 ?hy7 (by assumption) ?re7
      case hy7 =>
        first
        | (refine .inl ⟨rfl, ?_⟩
           intro w hSw
           try dsimp only at hSw
           go_simp
           done)
        | (refine .inl ⟨rfl, ?_⟩
           intro w hSw
           try dsimp only at hSw
           go_simp
           with_reducible rfl)
      case hQ7 => exact fun _ _ _ h => h
      try simp only [Act.put, List.setIfInBounds_toArray, List.set_cons_zero, List.set_cons_succ]
      refine wpAnyH_take (i := 8) (v := ?va8) rfl (by kernel_rfl) (by kernel_rfl) (by kernel_rfl) ?hQ8 ?hy8 (by assumption) ?re8
      case hy8 =>
        first
        | (refine .inl ⟨rfl, ?_⟩
           intro w hSw
           try dsimp only at hSw
           go_simp
           done)
        | (refine .inl ⟨rfl, ?_⟩
           intro w hSw
           try dsimp only at hSw
           go_simp
           with_reducible rfl)
      case hQ8 => exact fun _ _ _ h => h
      try simp only [Act.put, List.setIfInBounds_toArray, List.set_cons_zero, List.set_cons_succ]
      refine wpAnyH_take (i := 9) (v := ?va9) rfl (by kernel_rfl) (by kernel_rfl) (by kernel_rfl) ?hQ9 ?hy9 (by assumption) ?re9
      case hy9 =>
        first
        | (refine .inl ⟨rfl, ?_⟩
           intro w hSw
           try dsimp only at hSw
           go_simp
           done)
        | (refine .inl ⟨rfl, ?_⟩
           intro w hSw
           try dsimp only at hSw
           go_simp
           with_reducible rfl)
      case hQ9 => exact fun _ _ _ h => h
      try simp only [Act.put, List.setIfInBounds_toArray, List.set_cons_zero, List.set_cons_succ]
      refine wpAnyH_ready (rs := [10]) (by kernel_rfl) (by simp) ?_
      refine AllReadyH.cons rfl (fun K hK => ?_) AllReadyH.nil
      go_simp
      refine (CAP.out _ hHeld.1 hHeld.2.1 hHeld.2.2.1 hHeld.2.2.2.1 hHeld.2.2.2.2).mono ?_
      clear hHeld
      rintro e w9 ⟨rfl, hHeld⟩
      go_wp2_with fail
      refine hK.out _ _ hHeld (fun hHeld => ?_)
      clear hK K
      try simp only [Act.put, List.setIfInBounds_toArray, List.set_cons_zero, List.set_cons_succ]
      refine wpAnyH_take (i := 11) (v := ?va11) rfl (by kernel_rfl) (by kernel_rfl) (by kernel_rfl) ?hQ11 ?hy11 (by assumption) ?re11
      case hy11 =>
        first
        | (refine .inl ⟨rfl, ?_⟩
           intro w hSw
           try dsimp only at hSw
           go_simp
           done)
        | (refine .inl ⟨rfl, ?_⟩
           intro w hSw
           try dsimp only at hSw
           go_simp
           with_reducible rfl)
      case hQ11 => exact fun _ _ _ h => h
      try simp only [Act.put, List.setIfInBounds_toArray, List.set_cons_zero, List.set_cons_succ]
      refine wpAnyH_take (i := 12) (v := ?va12) rfl (by kernel_rfl) (by kernel_rfl) (by kernel_rfl) ?hQ12 ?hy12 (by assumption) ?re12
      case hy12 =>
        first
        | (refine .inl ⟨rfl, ?_⟩
           intro w hSw
           try dsimp only at hSw
           go_simp
           done)
        | (refine .inl ⟨rfl, ?_⟩
           intro w hSw
           try dsimp only at hSw
           go_simp
           with_reducible rfl)
      case hQ12 => exact fun _ _ _ h => h
      try simp only [Act.put, List.setIfInBounds_toArray, List.set_cons_zero, List.set_cons_succ]
      refine wpAnyH_take (i := 13) (v := undef) rfl (by kernel_rfl) (by kernel_rfl) (by kernel_rfl) ?hQ13 (.inr ⟨?hw13, rfl⟩) (by assumption) ?re13
      case hw13 =>
        first
        | (go_simp
           done)
        | (go_simp
           exact (show ¬ (none : Option Bool) = some true by decide))
      case hQ13 => exact fun _ _ _ h => h
      try simp only [Act.put, List.setIfInBounds_toArray, List.set_cons_zero, List.set_cons_succ]
      refine wpAnyH_take (i := 14) (v := undef) rfl (by kernel_rfl) (by kernel_rfl) (by kernel_rfl) ?hQ14 (.inr ⟨?hw14, rfl⟩) (by assumption) ?re14
      case hw14 =>
        first
        | (go_simp
           done)
        | (go_simp
           exact (show ¬ (none : Option Bool) = some true by decide))
      case hQ14 => exact fun _ _ _ h => h
      try simp only [Act.put, List.setIfInBounds_toArray, List.set_cons_zero, List.set_cons_succ]
      refine wpAnyH_take (i := 15) (v := undef) rfl (by kernel_rfl) (by kernel_rfl) (by kernel_rfl) ?hQ15 (.inr ⟨?hw15, rfl⟩) (by assumption) ?re15
      case hw15 =>
        first
        | (go_simp
           done)
        | (go_simp
           exact (show ¬ (none : Option Bool) = some true by decide))
      case hQ15 => exact fun _ _ _ h => h
      try simp only [Act.put, List.setIfInBounds_toArray, List.set_cons_zero, List.set_cons_succ]
      refine wpAnyH_take (i := 16) (v := undef) rfl (by kernel_rfl) (by kernel_rfl) (by kernel_rfl) ?hQ16 (.inr ⟨?hw16, rfl⟩) (by assumption) ?re16
      case hw16 =>
        first
        | (go_simp
           done)
        | (go_simp
           exact (show ¬ (none : Option Bool) = some true by decide))
      case hQ16 => exact fun _ _ _ h => h
      try simp only [Act.put, List.setIfInBounds_toArray, List.set_cons_zero, List.set_cons_succ]
      refine wpAnyH_take (i := 17) (v := undef) rfl (by kernel_rfl) (by kernel_rfl) (by kernel_rfl) ?hQ17 (.inr ⟨?hw17, rfl⟩) (by assumption) ?re17
      case hw17 =>
        first
        | (go_simp
           done)
        | (go_simp
           exact (show ¬ (none : Option Bool) = some true by decide))
      case hQ17 => exact fun _ _ _ h => h
      try simp only [Act.put, List.setIfInBounds_toArray, List.set_cons_zero, List.set_cons_succ]
      refine wpAnyH_take (i := 18) (v := undef) rfl (by kernel_rfl) (by kernel_rfl) (by kernel_rfl) ?hQ18 (.inr ⟨?hw18, rfl⟩) (by assumption) ?re18
      case hw18 =>
        first
        | (go_simp
           done)
        | (go_simp
           exact (show ¬ (none : Option Bool) = some true by decide))
      case hQ18 => exact fun _ _ _ h => h
      try simp only [Act.put, List.setIfInBounds_toArray, List.set_cons_zero, List.set_cons_succ]
      refine wpAnyH_take (i := 19) (v := undef) rfl (by kernel_rfl) (by kernel_rfl) (by kernel_rfl) ?hQ19 (.inr ⟨?hw19, rfl⟩) (by assumption) ?re19
      case hw19 =>
        first
        | (go_simp
           done)
        | (go_simp
           exact (show ¬ (none : Option Bool) = some true by decide))
      case hQ19 => exact fun _ _ _ h => h
      try simp only [Act.put, List.setIfInBounds_toArray, List.set_cons_zero, List.set_cons_succ]
      refine wpAnyH_take (i := 20) (v := undef) rfl (by kernel_rfl) (by kernel_rfl) (by kernel_rfl) ?hQ20 (.inr ⟨?hw20, rfl⟩) (by assumption) ?re20
      case hw20 =>
        first
        | (go_simp
           done)
        | (go_simp
           exact (show ¬ (none : Option Bool) = some true by decide))
      case hQ20 => exact fun _ _ _ h => h
      try simp only [Act.put, List.setIfInBounds_toArray, List.set_cons_zero, List.set_cons_succ]
      refine wpAnyH_ready (rs := [21]) (by kernel_rfl) (by simp) ?_
      refine AllReadyH.cons rfl (fun K hK => ?_) AllReadyH.nil
      go_simp
      refine hK.out _ _ hHeld (fun hHeld => ?_)
      clear hK K
      try simp only [Act.put, List.setIfInBounds_toArray, List.set_cons_zero, List.set_cons_succ]
      refine wpAnyH_ready (rs := [22]) (by kernel_rfl) (by simp) ?_
      refine AllReadyH.cons rfl (fun K hK => ?_) AllReadyH.nil
      go_simp
      refine hK.out _ _ hHeld (fun hHeld => ?_)
      clear hK K
      try simp only [Act.put, List.setIfInBounds_toArray, List.set_cons_zero, List.set_cons_succ]
      refine wpAnyH_ready (rs := [23]) (by kernel_rfl) (by simp) ?_
      refine AllReadyH.cons rfl (fun K hK => ?_) AllReadyH.nil
      go_simp
      refine hK.out _ _ hHeld (fun hHeld => ?_)
      clear hK K
      try simp only [Act.put, List.setIfInBounds_toArray, List.set_cons_zero, List.set_cons_succ]
      refine wpAnyH_done (by kernel_rfl) ?_ _
      refine NoPanic.normal ?_
      obtain ⟨hs1, hs2, hs3, hs4, hs5⟩ := hHeld
      all_goals
        go_wp2_with fail
        go_meet
        exact ⟨rfl, hs5⟩
    · have DAT := hide (DAP.out (by first | rfl | trivial))
      have DPT := hide (DPA.out (by first | rfl | trivial))
      go_region_held3 (fun W => W.cell? ⟨ga, 0, none⟩ = some (.slice Aa a.length ca) ∧ W.cell? ⟨gb, 0, none⟩ = some (.slice Ab b.length cb) ∧ W.cell? ⟨gc, 0, none⟩ = some (.slice Ac c.length cc) ∧ W.cell? ⟨gp, 0, none⟩ = some (.slice Ap p.length cp) ∧ Below w7.heap.size w7 W)
        (first | exact ⟨hs1, hs2, hs3, hs4, hs5⟩ | exact ⟨ha1, hb1, hc1, hp1, hx5⟩ | exact ⟨ha1, hb1, hc1, hp1, hx5d⟩)
        (first
          | (go_at_call 18; (first | (with_reducible refine (CAP.out _ hs1 hs2 hs3 hs4 hs5).mono ?_) | (with_reducible refine (CPA.out _ hs1 hs2 hs3 hs4 hs5).mono ?_) | (with_reducible refine (CAP.out w7.drew ha1d hb1d hc1d hp1d hx5d).mono ?_) | (with_reducible refine (CPA.out w7.drew ha1d hb1d hc1d hp1d hx5d).mono ?_) | fail); rintro e w9 ⟨rfl, hs1, hs2, hs3, hs4, hs5⟩)
          | (go_at_call 20; (first | (with_reducible refine (DAT.out _ hs1 hs2 hs3 hs4 hs5).mono ?_) | (with_reducible refine (DPT.out _ hs1 hs2 hs3 hs4 hs5).mono ?_) | (with_reducible refine (DAT.out w7.drew ha1d hb1d hc1d hp1d hx5d).mono ?_) | (with_reducible refine (DPT.out w7.drew ha1d hb1d hc1d hp1d hx5d).mono ?_) | fail); rintro e w9 ⟨rfl, hs1, hs2, hs3, hs4, hs5⟩)
          | fail)
      all_goals
        go_wp2_with fail
        go_meet
        exact ⟨rfl, hs5⟩
  case rest =>
    obtain ⟨rfl, hb8⟩ := hcut
    obtain ⟨w8, rfl⟩ : ∃ w8 : World, w8 = wc := ⟨_, rfl⟩
    have ha1 := cell_grows hb8 _ _ ha1
    have hb1 := cell_grows hb8 _ _ hb1
    have hc1 := cell_grows hb8 _ _ hc1
    have hp1 := cell_grows hb8 _ _ hp1
    have hx5 := hb8
    have hx5d : Below w7.heap.size w7 w8.drew := hb8.drew
    have ha1d : w8.drew.cell? ⟨ga, 0, none⟩ = some (.slice Aa a.length ca) := ha1
    have hb1d : w8.drew.cell? ⟨gb, 0, none⟩ = some (.slice Ab b.length cb) := hb1
    have hc1d : w8.drew.cell? ⟨gc, 0, none⟩ = some (.slice Ac c.length cc) := hc1
    have hp1d : w8.drew.cell? ⟨gp, 0, none⟩ = some (.slice Ap p.length cp) := hp1
    have AWK := hide (fun W h1 h2 h3 h4 h5 => four_held (wx := w7) (q := true) (g1 := ga) (g2 := gb) (g3 := gc) (g4 := gp) (u1 := .slice Aa a.length ca) (u2 := .slice Ab b.length cb) (u3 := .slice Ac c.length cc) (u4 := .slice Ap p.length cp) (nawake_any W (HMW.out.below h5)) h1 h2 h3 h4 h5)
    have trr : (r == r) = true := by simp
    clear hb8
    go_upto_region 7 with (fail)
    go_region_held3 (fun W => W.cell? ⟨ga, 0, none⟩ = some (.slice Aa a.length ca) ∧ W.cell? ⟨gb, 0, none⟩ = some (.slice Ab b.length cb) ∧ W.cell? ⟨gc, 0, none⟩ = some (.slice Ac c.length cc) ∧ W.cell? ⟨gp, 0, none⟩ = some (.slice Ap p.length cp) ∧ Below w7.heap.size w7 W)
      (first | exact ⟨hs1, hs2, hs3, hs4, hs5⟩ | exact ⟨ha1, hb1, hc1, hp1, hx5⟩ | exact ⟨ha1, hb1, hc1, hp1, hx5d⟩)
      (first
        | (go_at_call 12; (first | (with_reducible refine (AWK.out _ hs1 hs2 hs3 hs4 hs5).mono ?_) | (with_reducible refine (AWK.out w8.drew ha1d hb1d hc1d hp1d hx5d).mono ?_) | fail); rintro e w9 ⟨rfl, hs1, hs2, hs3, hs4, hs5⟩)
        | (go_at_call 18; (first | (with_reducible refine (CAA.out _ hs1 hs2 hs3 hs4 hs5).mono ?_) | (with_reducible refine (CAB.out _ hs1 hs2 hs3 hs4 hs5).mono ?_) | (with_reducible refine (CAA.out w8.drew ha1d hb1d hc1d hp1d hx5d).mono ?_) | (with_reducible refine (CAB.out w8.drew ha1d hb1d hc1d hp1d hx5d).mono ?_) | fail); rintro e w9 ⟨rfl, hs1, hs2, hs3, hs4, hs5⟩)
        | (go_at_call 20; (first | (with_reducible refine (DAB.out _ hs1 hs2 hs3 hs4 hs5).mono ?_) | (with_reducible refine (DBC.out _ hs1 hs2 hs3 hs4 hs5).mono ?_) | (with_reducible refine (DAC.out _ hs1 hs2 hs3 hs4 hs5).mono ?_) | (with_reducible refine (DBA.out _ hs1 hs2 hs3 hs4 hs5).mono ?_) | (with_reducible refine (DAB.out w8.drew ha1d hb1d hc1d hp1d hx5d).mono ?_) | (with_reducible refine (DBC.out w8.drew ha1d hb1d hc1d hp1d hx5d).mono ?_) | (with_reducible refine (DAC.out w8.drew ha1d hb1d hc1d hp1d hx5d).mono ?_) | (with_reducible refine (DBA.out w8.drew ha1d hb1d hc1d hp1d hx5d).mono ?_) | fail); rintro e w9 ⟨rfl, hs1, hs2, hs3, hs4, hs5⟩)
        | fail)
    all_goals
      go_wp2_with fail
      go_ret
      exact ⟨rfl, HBW.out.trans (hs5.mono HBW.out.size)⟩
end Go.Proofs.YtepibepgfackkaaDoor
