/- The law SubtreePermits holds (the tied card): whatever the arguments are, it returns true, and they read as they did. Conditions: the listed tables of Go's library hold what the program's text lays (tied by the card). -/
import Derived.Test.YtodapmkdmkhhfaaGreatDoorPerC
import Derived.Test.YtodapmkdmkhhfaaGreatDoorLibR
import Derived.Test.YtodapmkdmkhhfaaGreatDoorCards
import Derived.Test.YtodapmkdmkhhfaaGreatDoorTie
import Derived.Deep.DeepHandedRow
import Derived.Test.YtodapmkdmkhhfaaGreatDoorLibO
namespace Go.Proofs.YtodapmkdmkhhfaaGreatDoor.subtreePermits
open Go.RowKit Go.ChangeShapes Go.WideShapes Go.ChangeAt
open Go.ChangeMaps (open_string)

theorem own : ownKnob Tryz.prog.godebug = none := by kernel_rfl
theorem cells_ints : Tryz.prog.cellsOf 3 = 1 := by kernel_rfl

set_option maxRecDepth 100000 in
theorem contract (H : Type) (enc : TypeId × Value → H) (W : World) (base : Nat) (args : Array Value) (ds gs : List (DataW H)) (before : List MemPlace)
    (hval : ∀ (j : Nat) t v, Tryz.f3.params[j]? = some t → args[j]? = some v → Value.okWide Tryz.prog W .any base t v)
    (hW : DataW.Whole enc Tryz.prog Tryz.f3.params.toList Rows.subtreePermitsSpec.vars false W args.toList ds gs before) (_hL : laidMetH Tryz.prog Rows.subtreePermitsRow.laid W) (hS : W.ShapedOpen Tryz.prog) :
    Calls Tryz.prog 3 args W fun e W' => ∃ v, e = .returned v ∧ Rows.subtreePermitsSpec.post enc Tryz.prog Tryz.f3 false true false false W args v W' := by
  have hW' := hW
  have hlt : ∀ x ∈ before, x.block < W.heap.size := fun x hx => hW.lt x hx
  obtain ⟨p, q, hA0, hV, rfl, hfz, hnd⟩ := hW
  have hA : DataW.TrodAll enc Tryz.prog W 0 (fun _ => true) true Tryz.f3.params.toList args.toList ds p := hA0
  rw [Tryz.params3] at hA hval
  obtain ⟨v0, vs0, d0, ds0, p0, q0, hargs, rfl, rfl, h0, r0⟩ := trodAll_cons hA
  obtain ⟨v1, vs1, d1, ds1, p1, q1, rfl, rfl, rfl, h1, r1⟩ := trodAll_cons r0
  obtain ⟨v2, vs2, d2, ds2, p2, q2, rfl, rfl, rfl, h2, r2⟩ := trodAll_cons r1
  obtain ⟨v3, vs3, d3, ds3, p3, q3, rfl, rfl, rfl, h3, r3⟩ := trodAll_cons r2
  obtain ⟨rfl, rfl, rfl⟩ := trodAll_nil r3
  obtain rfl : args = #[v0, v1, v2, v3] := by cases args; simp_all
  obtain ⟨rfl, rfl⟩ := trodVars_none hV
  obtain ⟨raw, A1, c1, rfl, k1⟩ := open_state (hval 0 24 v0 rfl rfl) h0
  obtain ⟨per, ex, B1, B2, e1, e2, rfl, k2, k3⟩ := open_sub (hval 1 27 v1 rfl rfl) h1
  obtain ⟨g, t, A, c, rfl, ht, k4⟩ := open_gen (hval 2 32 v2 rfl rfl) h2
  obtain ⟨l0, A0, n0, c0, rfl, k0, b0⟩ := open_intk Tryz.underlying33 Tryz.underlying3 cells_ints (hval 3 33 v3 rfl rfl) h3 (fun x hx => hlt x (by simp [hx]))
  refine (SubtreePermits_any raw per ex g t l0 A1 B1 B2 A A0 c1 e1 e2 c n0 c0 ht W (mx_of hS) k1 k2 k3 k4 k0).mono fun e W' ⟨he, hb⟩ => ⟨_, he, ?_⟩
  exact law_post (tb := 4) (by kernel_rfl) (fun t ht => by
    rw [Tryz.params3] at ht
    simp only [List.mem_cons, List.not_mem_nil, or_false] at ht
    rcases ht with rfl | rfl | rfl | rfl <;> exact ⟨by kernel_rfl, of_decide_eq_true (by kernel_rfl)⟩) rfl rfl Tryz.underlying4 hW' rfl hb

/-- A world for the witness: the settled one, the tables holding what their initialisers lay. -/
noncomputable def laidWorld (os : Os) : World :=
  { World.holding Tryz.prog os ⟨#[], #[], []⟩ with heap := (((World.holding Tryz.prog os ⟨#[], #[], []⟩).heap.modify 2 fun
      | .cells _ t frozen => .cells #[.int .u8 128, .int .u8 191, .int .u8 160, .int .u8 191, .int .u8 128, .int .u8 159, .int .u8 144, .int .u8 191, .int .u8 128, .int .u8 143, .int .u8 0, .int .u8 0, .int .u8 0, .int .u8 0, .int .u8 0, .int .u8 0, .int .u8 0, .int .u8 0, .int .u8 0, .int .u8 0, .int .u8 0, .int .u8 0, .int .u8 0, .int .u8 0, .int .u8 0, .int .u8 0, .int .u8 0, .int .u8 0, .int .u8 0, .int .u8 0, .int .u8 0, .int .u8 0] t frozen
      | o => o).modify 1 fun
      | .cells _ t frozen => .cells (Go.Pinned.utf8FirstZ.map fun (n : Nat) => Value.int .u8 (n : Int)).toArray t frozen
      | o => o) }
theorem laid_met (os : Os) : laidMet Tryz.prog Rows.subtreePermitsRow.laid ((laidWorld os).forCall (fun _ _ => 0) ⟨#[], #[.agg #[.slice none 0 0], .agg #[.slice none 0 0, .slice none 0 0], .agg #[.int .i64 0, .string ⟨#[]⟩, .slice none 0 0], .slice none 0 0], []⟩).memory :=
  laidMet_of_run' 8 (by kernel_rfl) (by kernel_rfl)
theorem reads (os : Os) {H : Type} (enc : TypeId × Value → H) : (DataW.whole enc Tryz.prog ((laidWorld os).forCall (fun _ _ => 0) ⟨#[], #[.agg #[.slice none 0 0], .agg #[.slice none 0 0, .slice none 0 0], .agg #[.int .i64 0, .string ⟨#[]⟩, .slice none 0 0], .slice none 0 0], []⟩).memory Tryz.f3.params.toList Rows.subtreePermitsSpec.vars false (#[.agg #[.slice none 0 0], .agg #[.slice none 0 0, .slice none 0 0], .agg #[.int .i64 0, .string ⟨#[]⟩, .slice none 0 0], .slice none 0 0] : Array Value).toList 8).isSome = true := by kernel_rfl

set_option maxRecDepth 100000 in
theorem lifted (os : Os) (started : os.Started) (H : Type) (enc : TypeId × Value → H) (F : Stop.Interp) :
    ReturnsInHanded {} Tryz.checked os 3 .any ((OpenSpec.ofChange Rows.subtreePermitsSpec).preRow enc Tryz.prog Tryz.f3 Rows.subtreePermitsRow.domain false Rows.subtreePermitsRow.laid) (((OpenSpec.ofChange Rows.subtreePermitsSpec).at F).post enc Tryz.prog Tryz.f3 false true false false) := by
  obtain ⟨x, hx⟩ := Option.isSome_iff_exists.1 (reads os enc)
  refine returnsInHanded_of_row (C := Tryz.checked) (s := OpenSpec.ofChange Rows.subtreePermitsSpec) own started (by kernel_rfl) Tryz.func3
    (witness_row_at (enc := enc) (C := Tryz.checked) false (laidWorld os) #[.agg #[.slice none 0 0], .agg #[.slice none 0 0, .slice none 0 0], .agg #[.int .i64 0, .string ⟨#[]⟩, .slice none 0 0], .slice none 0 0] rfl (by kernel_rfl) (by kernel_rfl) (by kernel_rfl)
      (OpenSpec.preRow_of_cond 8 hx rfl (fun k hk => by cases hk) (by kernel_rfl) (laid_met os))) ?_
  intro W base args ds gs before hval hW _ _ _ hL hS _
  exact contract H enc W base args ds gs before hval hW hL hS

theorem said : Rows.SubtreePermitsSaid :=
  OpenClaim.holds_of_cond 3 Tryz.f3 rfl rfl rfl rfl rfl rfl rfl ⟨rfl, rfl, rfl, rfl, rfl⟩ rfl rfl rfl rfl rfl (by kernel_rfl) Tryz.func3 (by kernel_rfl)
    (of_decide_eq_true (by kernel_rfl)) (by unfold Func.isWrapper; rw [if_neg (of_decide_eq_false (by kernel_rfl))]; exact ⟨rfl, rfl⟩)
    (fun os started H enc _ F => by rw [OpenClaim.pre_eq_preRow]; exact lifted os started H enc F)

/-- No parameter wants a stand-in; the program's own looks are off: what the card asks. -/
theorem plain (f : FuncId) (fn : Func) (hf : Tryz.pinned.checked.prog.funcNamed "certpath/certpathlaw10.SubtreePermits" = some f) (hfn : Tryz.pinned.checked.prog.funcs[f]? = some fn) :
    false = Tryz.pinned.checked.prog.looks [] ∧ ∀ (j : Nat) t, fn.params[j]? = some t → Tryz.pinned.checked.prog.wantsStandIn t = false := by
  obtain rfl : f = 3 := Option.some.inj ((show Tryz.prog.funcNamed "certpath/certpathlaw10.SubtreePermits" = some 3 by kernel_rfl).symm.trans hf) |>.symm
  obtain rfl : fn = Tryz.f3 := (Option.some.inj (Tryz.func3.symm.trans hfn)).symm
  refine ⟨by kernel_rfl, fun j t ht => ?_⟩
  rw [Tryz.params3] at ht
  have hm := Array.mem_of_getElem? ht
  simp only [List.mem_toArray, List.mem_cons, List.not_mem_nil, or_false] at hm
  rcases hm with rfl | rfl | rfl | rfl
  · exact (show Tryz.prog.wantsStandIn 24 = false by kernel_rfl)
  · exact (show Tryz.prog.wantsStandIn 27 = false by kernel_rfl)
  · exact (show Tryz.prog.wantsStandIn 32 = false by kernel_rfl)
  · exact (show Tryz.prog.wantsStandIn 33 = false by kernel_rfl)

theorem proved : Rows.SubtreePermitsCardSaid :=
  Claim7.holds_tied_plain_at .later [] _ _ _ _ said (fun _ h => by cases h) (by kernel_rfl) (fun _ h => by cases h) subtreePermits_row_tie rfl ⟨rfl, rfl⟩ (by kernel_rfl) rfl plain (by kernel_rfl)
end Go.Proofs.YtodapmkdmkhhfaaGreatDoor.subtreePermits
