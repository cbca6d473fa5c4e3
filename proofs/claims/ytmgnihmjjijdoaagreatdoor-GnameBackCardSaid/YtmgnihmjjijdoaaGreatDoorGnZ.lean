/- The laws of layer 9: awake, short, some. -/
import Derived.Test.YtmgnihmjjijdoaaGreatDoorGGnX
import Derived.Test.YtmgnihmjjijdoaaGreatDoorGnJ
import Derived.Test.YtmgnihmjjijdoaaGreatDoorGHosI
namespace Go.Proofs.YtmgnihmjjijdoaaGreatDoor
open Go.RowKit
theorem own_byte {e : TypeId} {w : World} {base : Nat} (hbase : base ≤ w.heap.size) (k : UInt8) : Own RByte 1 e (w.alloc (.cells #[.int .u8 (k.toNat : Int)] e)) base No (.slice (some ⟨w.heap.size, 0, none⟩) 1 1) [k] := by
  refine ⟨[.int .u8 (k.toNat : Int)], ⟨rfl, .inr ⟨w.heap.size, 1, #[.int .u8 (k.toNat : Int)], rfl, hbase, heap_alloc_new w _, Nat.le_refl _, by simp [maxLen], rfl, rfl⟩⟩, fun g _ hg => hg.elim, fun i y hy => ?_⟩
  match i, hy with
  | 0, hy =>
    simp at hy; subst hy
    exact ⟨[.int .u8 (k.toNat : Int)], rfl, fun j u hu => by simpa using hu⟩
theorem info_u8w : (Tryz.prog.info? 5).map (fun i => (i.zero, i.size, i.bytes)) = some (some (.int .u8 0), 1, 1) := by kernel_rfl
set_option maxRecDepth 100000 in
set_option maxHeartbeats 4000000 in
theorem Join_one (x : ByteArray) (a : Addr) (c : Nat) (w : World) (h : w.cell? a = some (.string x)) :
  Calls Tryz.prog 67 #[.slice (some a) 1 c, .string ⟨#[]⟩] w fun e w' => e = .returned (.string x) ∧ w' = w := by
 go_enter Tryz.func67, Tryz.ntmps67
 go_wp2_with fail
 go_ret
 exact ⟨rfl, rfl⟩
set_option maxRecDepth 100000 in
set_option maxHeartbeats 4000000 in
theorem Wrap_dns (w : World) :
  Calls Tryz.prog 46 #[.int .i64 130, .slice (some ⟨w.heap.size, 0, none⟩) 1 1] (w.alloc (.cells #[.string ⟨#[97, 46, 98]⟩] 9)) fun e w' => e = .returned (.tuple #[.string ⟨#[130, 3, 97, 46, 98]⟩, .int .i64 0]) ∧ Below w.heap.size w w' := by
 obtain ⟨wa, hwa⟩ : ∃ wa, wa = w.alloc (.cells #[.string ⟨#[97, 46, 98]⟩] 9) := ⟨_, rfl⟩
 have hba : Below w.heap.size w wa := by rw [hwa]; exact (Below.refl _ _).alloc (Nat.le_refl _) _
 have hz : wa.heap.size = w.heap.size + 1 := by rw [hwa]; simp
 have e0 : wa.cell? ⟨w.heap.size, 0, none⟩ = some (.string ⟨#[97, 46, 98]⟩) := by rw [hwa, World.cell?_alloc_new]; rfl
 rw [← hwa]
 obtain ⟨g, hg⟩ : ∃ g, g = w.heap.size := ⟨_, rfl⟩
 rw [← hg] at e0 ⊢
 have HBA := hide hba
 have HZ := hide hz
 have HG := hide hg
 have b1 : bits .and .i64 130 31 = 2 := by kernel_rfl
 clear hba hz hwa hg
 go_enter Tryz.func46, Tryz.ntmps46
 go_wp2_with fail
 go_loopw [6, 23] (fun n i wr => ((i = .int .i64 0 ∧ n = .int .i64 0) ∨ (i = .int .i64 1 ∧ n = .int .i64 3)) ∧ wa = wr) (fun _ i _ => 1 - (intOf i).toNat)
 case atStart => exact ⟨.inl ⟨rfl, rfl⟩, rfl⟩
 case round =>
  obtain ⟨h, rfl⟩ := hrel
  rcases h with ⟨rfl, rfl⟩ | ⟨rfl, rfl⟩
  ·go_wp2_with fail
   go_roundw
   case rel => exact ⟨.inr ⟨by go_num, by go_num⟩, by first | rfl | trivial⟩
   case measure => decide
  ·obtain ⟨base, hbase⟩ : ∃ b, b = wa.heap.size := ⟨_, rfl⟩
   have hown : Own RByte 1 5 (wa.alloc (.cells #[.int .u8 130] 5)) base No (.slice (some ⟨wa.heap.size, 0, none⟩) 1 1) [130] := own_byte (by omega) 130
   have hba2 : base ≤ ((wa.alloc (.cells #[.int .u8 130] 5)).alloc (.cells #[.int .u8 3] 5)).heap.size := by rw [World.size_alloc, World.size_alloc]; omega
   have hnews := news_bytes (wa.alloc (.cells #[.int .u8 130] 5)) No #[.int .u8 3] 5 [3] rfl
   rw [World.size_alloc] at hnews
   have hown3 := hown.alloc RByte.ok (no_lt _) (.cells #[.int .u8 3] 5)
   have HBS := hide hbase
   clear hbase
   go_upto_region 19 with (first
    | (at_builtin; refine wpList_app RByte.ok _ rfl (.tmp 54) (.tmp 57) 28 rfl base 5 (.int .u8 0) 1 Tryz.underlying28 info_u8w rfl (by decide) No _ [130] rfl hown3 ⟨_, 0, none⟩ 1 1 [3] rfl rfl hnews (no_lt _) (by simp) (by simp [maxLen]) hba2 ?_; intro v2 w2 hown2 hg2 hb2 hat2; obtain ⟨A2, c2, hv2⟩ := (hown2.sl RByte.ok).shape; subst hv2)
    | fail)
   have hb2' : Below wa.heap.size wa w2 := (((Below.refl wa.heap.size wa).alloc (Nat.le_refl _) _).alloc (by simp) _).trans (by rw [← HBS.out]; exact hb2)
   have hsl2 : Sl RByte 1 w2 (Lt w2.heap.size) [130, 3] [.slice A2 2 c2] := (Sl.ok RByte.ok).mono (hown2.sl RByte.ok) (fun _ _ => rfl) (fun k hk => by rcases hk with hk | hk; exact hk.elim; exact hk.2)
   have hconv := fun W (h : Below w2.heap.size w2 W) => run_bts_str (P := Tryz.prog) W 28 9 5 Tryz.underlying28 Tryz.underlying5 Tryz.underlying9 _ (.slice A2 2 c2) [130, 3] ((Sl.ok RByte.ok).mono hsl2 (fun k hk => h.block k hk) (fun _ hk => hk))
   have e2 : w2.cell? ⟨g, 0, none⟩ = some (.string ⟨#[97, 46, 98]⟩) := (hb2'.cell (p := ⟨g, 0, none⟩) (World.block_lt_of_cell? wa _ e0)).trans e0
   have e2d : w2.drew.cell? ⟨g, 0, none⟩ = some (.string ⟨#[97, 46, 98]⟩) := e2
   have hcd := hconv w2.drew (Below.refl _ _).drew
   go_region_held3 (fun W => W = w2.drew)
    (first | exact hs1 | rfl)
    (first
     | (go_at_call 67; refine (Join_one ⟨#[97, 46, 98]⟩ ⟨g, 0, none⟩ 1 w2.drew e2d).mono ?_; rintro e wn ⟨rfl, rfl⟩; have hs1 : w2.drew = w2.drew := rfl)
     | fail)
   all_goals
    go_wp2_with fail
    go_ret2
    exact ⟨rfl, by rw [HG.out]; exact HBA.out.trans (hb2'.drew.mono HBA.out.size)⟩
theorem gen_cells9 {w W : World} {t : ByteArray} {k : Int} {v : Value} {T : TypeId} (h : W = w.alloc (.cells #[.int .i64 k, .string t, v] T)) :
  W.cell? ⟨w.heap.size, 0, none⟩ = some (.int .i64 k) ∧ W.cell? ⟨w.heap.size, 1, none⟩ = some (.string t) ∧ W.cell? ⟨w.heap.size, 2, none⟩ = some v := by
 subst h
 refine ⟨?_, ?_, ?_⟩ <;> (rw [World.cell?_alloc_new]; rfl)
theorem pat_ab : patB [97, 46, 98] = true := by decide +kernel
theorem match_ex : matchG (2, [42, 46, 101, 120, 97, 109, 112, 108, 101, 46, 111, 114, 103], []) (2, [119, 119, 119, 46, 101, 120, 97, 109, 112, 108, 101, 46, 111, 114, 103], []) = true := by decide +kernel
set_option maxRecDepth 100000 in
set_option maxHeartbeats 4000000 in
theorem valid_dns (w : World) (hmx : Mx w) : Calls Tryz.prog 77 #[.int .i64 1, .string ⟨#[97, 46, 98]⟩, .bool false] w fun e w' => e = .returned (.bool true) ∧ Below w.heap.size w w' := by
 have HP := hide (fun W (h : Mx W) => hpat_any ⟨#[97, 46, 98]⟩ (by decide) true pat_ab W h)
 have HMX := hide hmx
 clear hmx
 go_enter Tryz.func77, Tryz.ntmps77
 go_wp2_with fail
 refine (HP.out _ HMX.out).mono ?_
 rintro e w1 ⟨rfl, hb1⟩
 go_wp2_with fail
 go_ret
 exact ⟨rfl, hb1⟩
set_option maxRecDepth 100000 in
set_option maxHeartbeats 4000000 in
theorem gCheck_dns (w : World) (hmx : Mx w) : Calls Tryz.prog 40 #[.agg #[.int .i64 2, .string ⟨#[97, 46, 98]⟩, .slice none 0 0], .bool false] w fun e w' => e = .returned (.int .i64 0) ∧ Below w.heap.size w w' := by
 obtain ⟨wa, hwa⟩ : ∃ wa, wa = w.alloc (.cells #[.int .i64 2, .string ⟨#[97, 46, 98]⟩, .slice none 0 0] 26) := ⟨_, rfl⟩
 obtain ⟨c0, c1, c2⟩ := gen_cells9 hwa
 have hba : Below w.heap.size w wa := by rw [hwa]; exact (Below.refl _ _).alloc (Nat.le_refl _) _
 have OF := hide (fun W => of_v 2 1 rfl W)
 have VD := hide (valid_dns wa (hmx.below hba))
 have HBA := hide hba
 have HWA := hide hwa
 clear hmx hwa hba
 go_enter Tryz.func40, Tryz.ntmps40
 go_upto_region 1 with (fail)
 rw [← HWA.out]
 go_wp2_with fail
 refine (OF.out _).mono ?_
 rintro e w1 ⟨rfl, rfl⟩
 go_wp2_with fail
 refine VD.out.mono ?_
 rintro e w1 ⟨rfl, hb1⟩
 go_wp2_with fail
 go_ret
 exact ⟨rfl, HBA.out.trans (hb1.mono HBA.out.size)⟩
set_option maxRecDepth 100000 in
set_option maxHeartbeats 4000000 in
theorem gEncode_dns (w : World) (hmx : Mx w) : Calls Tryz.prog 16 #[.agg #[.int .i64 2, .string ⟨#[97, 46, 98]⟩, .slice none 0 0], .bool false] w fun e w' => e = .returned (.tuple #[.string ⟨#[130, 3, 97, 46, 98]⟩, .int .i64 0]) ∧ Below w.heap.size w w' := by
 obtain ⟨wa, hwa⟩ : ∃ wa, wa = w.alloc (.cells #[.int .i64 2, .string ⟨#[97, 46, 98]⟩, .slice none 0 0] 26) := ⟨_, rfl⟩
 obtain ⟨c0, c1, c2⟩ := gen_cells9 hwa
 have hba : Below w.heap.size w wa := by rw [hwa]; exact (Below.refl _ _).alloc (Nat.le_refl _) _
 have CK := hide (gCheck_dns wa (hmx.below hba))
 have HBA := hide hba
 have HWA := hide hwa
 clear hmx hwa hba
 go_enter Tryz.func16, Tryz.ntmps16
 go_upto_region 1 with (fail)
 rw [← HWA.out]
 go_wp2_with fail
 refine CK.out.mono ?_
 rintro e w1 ⟨rfl, hb1⟩
 have c0 := cell_grows hb1 _ _ c0
 have c1 := cell_grows hb1 _ _ c1
 have HB1 := hide (HBA.out.trans (hb1.mono HBA.out.size))
 clear hb1 c2
 go_wp2_with fail
 refine (Wrap_dns w1).mono ?_
 rintro e w2 ⟨rfl, hb2⟩
 have HB2 := hide (HB1.out.trans (hb2.mono HB1.out.size))
 clear hb2
 go_wp2_with fail
 go_ret2
 exact ⟨rfl, HB2.out⟩
set_option maxRecDepth 100000 in
set_option maxHeartbeats 4000000 in
theorem awake9_any (w : World) (hmx : Mx w) : Calls Tryz.prog 6 #[] w fun e w' => e = .returned (.bool true) ∧ Below w.heap.size w w' := by
 have EN := hide (gEncode_dns w hmx)
 have MA := hide (fun W (h : Mx W) => gMatch_any 2 2 ⟨#[42, 46, 101, 120, 97, 109, 112, 108, 101, 46, 111, 114, 103]⟩ ⟨#[119, 119, 119, 46, 101, 120, 97, 109, 112, 108, 101, 46, 111, 114, 103]⟩ [] [] none none 0 0 (by decide) (by decide) nil_small nil_small true match_ex W h (Sl.nil _ _ _ _) (Sl.nil _ _ _ _))
 have HMX := hide hmx
 clear hmx
 go_enter Tryz.func6, Tryz.ntmps6
 go_wp2_with fail
 refine EN.out.mono ?_
 rintro e w1 ⟨rfl, hb1⟩
 have HB1 := hide hb1
 clear hb1
 go_wp2_with fail
 refine (MA.out _ (HMX.out.below HB1.out)).mono ?_
 rintro e w2 ⟨rfl, hb2⟩
 have HB2 := hide (HB1.out.trans (hb2.mono HB1.out.size))
 clear hb2
 go_wp2_with fail
 go_ret
 exact ⟨rfl, HB2.out⟩
end Go.Proofs.YtmgnihmjjijdoaaGreatDoor
