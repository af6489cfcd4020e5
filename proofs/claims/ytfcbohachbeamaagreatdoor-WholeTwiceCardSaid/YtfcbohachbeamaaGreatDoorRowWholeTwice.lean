/- The law WholeTwice holds of the given program, for whatever arguments, its listed variables being as the program's text lays them; what came in reads as it did. -/
import Derived.Test.YtfcbohachbeamaaGreatDoorTie
import Derived.Test.YtfcbohachbeamaaGreatDoorCards
import Derived.Test.YtfcbohachbeamaaGreatDoorM18
import Derived.Lay
import Derived.SevenTiedAt
import Derived.Stop.Joined
set_option linter.unusedVariables false
set_option maxHeartbeats 8000000
set_option linter.unusedSimpArgs false
namespace Go.Proofs.YtfcbohachbeamaaGreatDoor.wholeTwice
open Go.ChangeShapes Go.WideShapes Go.ChangeAt Go.RowKit Go.Joins
theorem own : ownKnob Tryz.prog.godebug = none := by kernel_rfl
theorem laidOut : laidOutB Tryz.prog = true := by kernel_rfl
theorem ent : VC.Enters Tryz.prog 4 := VC.enters Tryz.func4 (by kernel_rfl) (by kernel_rfl)
set_option maxRecDepth 100000 in
theorem lifted (os : Os) (started : os.Started) (H : Type) (enc : TypeId × Value -> H) :
    ReturnsInHanded {} Tryz.checked os 4 .any (fun w args => (Rows.wholeTwiceSpec.pre enc Tryz.prog Tryz.f4 Rows.wholeTwiceRow.domain false w args /\ laidMetH Tryz.prog Rows.wholeTwiceRow.laid w) /\ sizedMet enc Tryz.prog Tryz.f4 (OpenSpec.ofChange Rows.wholeTwiceSpec) false w args)
      (Rows.wholeTwiceSpec.post enc Tryz.prog Tryz.f4 false true false false) := by
  refine E.aGi (C := Tryz.checked) (X := fun w _ => laidMetH Tryz.prog Rows.wholeTwiceRow.laid w) (fun _ _ _ hh h => h.of_heap hh) own started (by kernel_rfl) Tryz.func4
    (ChangeSpec.witness_shaped (enc := enc) (C := Tryz.checked) (os := os) (X := fun w _ => laidMetH Tryz.prog Rows.wholeTwiceRow.laid w) false (World.laidAll Tryz.prog os Rows.wholeTwiceRow.laid) #[.agg #[.int .i64 0, .int .i64 0, .slice none 0 0], .int .i64 0, .int .i64 0, .int .i64 0] 8 (World.laidAll_os _ _ _)
      (World.shaped_of_ZipB (by kernel_rfl) (by kernel_rfl)) (by kernel_rfl) (by kernel_rfl) (by kernel_rfl)
      (by rw [MakeChecks.laidMetH_plain _ _ _ (by kernel_rfl)]; exact laidMet_laidAll _ (by kernel_rfl) (by kernel_rfl))) ?_
  intro W base args ds gs before hval0 hW hL hso
  have G : VC.aZ W := E.aRw hso hL
  have hval : ∀ (j : Nat) t v, Tryz.f4.params[j]? = some t -> args[j]? = some v -> Value.okWide Tryz.prog W .any base t v := hval0
  have hW' := hW
  obtain ⟨p, q, hA0, hV, rfl, hfz, hnd⟩ := hW
  have hA : DataW.TrodAll enc Tryz.prog W 0 (fun _ => true) true Tryz.f4.params.toList args.toList ds p := hA0
  rw [Tryz.params4] at hA hval
  obtain ⟨v0, vs0, d0, ds0, p0, q0, hargs, rfl, rfl, h0, r0⟩ := trodAll_cons hA
  obtain ⟨v1, vs1, d1, ds1, p1, q1, rfl, rfl, rfl, h1, r1⟩ := trodAll_cons r0
  obtain ⟨v2, vs2, d2, ds2, p2, q2, rfl, rfl, rfl, h2, r2⟩ := trodAll_cons r1
  obtain ⟨v3, vs3, d3, ds3, p3, q3, rfl, rfl, rfl, h3, r3⟩ := trodAll_cons r2
  obtain ⟨rfl, rfl, rfl⟩ := trodAll_nil r3
  obtain rfl : args = #[v0, v1, v2, v3] := by cases args; simp_all
  obtain ⟨rfl, rfl⟩ := trodVars_none hV
  have k0 := h0
  have lt0 : ∀ x ∈ p0, x.block < W.heap.size := by obtain ⟨m, hm⟩ := k0; exact DataW.trod_lt m _ _ _ hm
  obtain ⟨a0, sv0, rfl, f0, g0⟩ := E.aLx (hval 0 24 v0 rfl rfl) h0
  have k1 := h1
  have lt1 : ∀ x ∈ p1, x.block < W.heap.size := by obtain ⟨m, hm⟩ := k1; exact DataW.trod_lt m _ _ _ hm
  obtain ⟨m1, rfl, rfl, rfl, w1⟩ := open_int Tryz.underlying3 (hval 1 3 v1 rfl rfl) h1
  have f1 : VC.bF.p m1 := by have := bounds_i64 w1; exact ⟨by omega, by omega⟩
  have k2 := h2
  have lt2 : ∀ x ∈ p2, x.block < W.heap.size := by obtain ⟨m, hm⟩ := k2; exact DataW.trod_lt m _ _ _ hm
  obtain ⟨m2, rfl, rfl, rfl, w2⟩ := open_int Tryz.underlying3 (hval 2 3 v2 rfl rfl) h2
  have f2 : VC.bF.p m2 := by have := bounds_i64 w2; exact ⟨by omega, by omega⟩
  have k3 := h3
  have lt3 : ∀ x ∈ p3, x.block < W.heap.size := by obtain ⟨m, hm⟩ := k3; exact DataW.trod_lt m _ _ _ hm
  obtain ⟨m3, rfl, rfl, rfl, w3⟩ := open_int Tryz.underlying3 (hval 3 3 v3 rfl rfl) h3
  have f3 : VC.bF.p m3 := by have := bounds_i64 w3; exact ⟨by omega, by omega⟩
  clear hA0 hval0
  have hp : E.aRZ [VC.bV.e a0, VC.bF.e m1, VC.bF.e m2, VC.bF.e m3] = some (.o (E.bv true)) := by
    have e0 := (VC.bV.enc f0).1
    have e1 := (VC.bF.enc f1).1
    have e2 := (VC.bF.enc f2).1
    have e3 := (VC.bF.enc f3).1
    simp only [E.aRZ, VC.s1, VC.s2, VC.s3, VC.s4, VC.s5, e0, e1, e2, e3, and_self, if_true]
  refine (E.aMq E.aST ent hp (w := W) (vs := [.agg #[.int .i64 a0.u, .int .i64 a0.x, sv0], .int .i64 m1, .int .i64 m2, .int .i64 m3]) G ⟨⟨[_, _, _], rfl, ⟨rfl, rfl⟩, ⟨rfl, rfl⟩, g0, trivial⟩, ⟨rfl, rfl⟩, ⟨rfl, rfl⟩, ⟨rfl, rfl⟩, trivial⟩).mono ?_
  rintro e W' ⟨rfl, bel⟩
  exact ⟨_, rfl, _, _, _, [], _, [], hW', trodAll_mk1 (shut_bool Tryz.underlying4 _), (trodAll_cons_mk (Below.trod laidOut (by kernel_rfl) (of_decide_eq_true (by kernel_rfl)) k0 bel lt0) (trodAll_cons_mk (Below.trod laidOut (by kernel_rfl) (of_decide_eq_true (by kernel_rfl)) k1 bel lt1) (trodAll_cons_mk (Below.trod laidOut (by kernel_rfl) (of_decide_eq_true (by kernel_rfl)) k2 bel lt2) (trodAll_cons_mk (Below.trod laidOut (by kernel_rfl) (of_decide_eq_true (by kernel_rfl)) k3 bel lt3) trodAll_mk0)))), rfl, bel.frame _, fun h => by cases h⟩
theorem joined : joinedFacts Tryz.prog 4 Tryz.f4 Rows.wholeTwiceSpec Rows.wholeTwiceRow = true := by
  simp only [joinedFacts, Bool.and_eq_true]
  refine ⟨⟨⟨⟨⟨⟨⟨⟨⟨⟨⟨⟨⟨⟨⟨⟨⟨⟨⟨⟨⟨⟨⟨⟨⟨⟨⟨⟨⟨⟨⟨?_, ?_⟩, ?_⟩, ?_⟩, ?_⟩, ?_⟩, ?_⟩, ?_⟩, ?_⟩, ?_⟩, ?_⟩, ?_⟩, ?_⟩, ?_⟩, ?_⟩, ?_⟩, ?_⟩, ?_⟩, ?_⟩, ?_⟩, ?_⟩, ?_⟩, ?_⟩, ?_⟩, ?_⟩, ?_⟩, ?_⟩, ?_⟩, ?_⟩, ?_⟩, ?_⟩, ?_⟩
  · as_aux_lemma => kernel_rfl
  · as_aux_lemma => kernel_rfl
  · as_aux_lemma => kernel_rfl
  · as_aux_lemma => kernel_rfl
  · as_aux_lemma => kernel_rfl
  · as_aux_lemma => kernel_rfl
  · as_aux_lemma => kernel_rfl
  · as_aux_lemma => kernel_rfl
  · as_aux_lemma => kernel_rfl
  · as_aux_lemma => kernel_rfl
  · as_aux_lemma => kernel_rfl
  · as_aux_lemma => kernel_rfl
  · as_aux_lemma => kernel_rfl
  · as_aux_lemma => kernel_rfl
  · as_aux_lemma => kernel_rfl
  · as_aux_lemma => kernel_rfl
  · as_aux_lemma => kernel_rfl
  · as_aux_lemma => kernel_rfl
  · as_aux_lemma => kernel_rfl
  · as_aux_lemma => kernel_rfl
  · as_aux_lemma => kernel_rfl
  · as_aux_lemma => kernel_rfl
  · as_aux_lemma => kernel_rfl
  · as_aux_lemma => kernel_rfl
  · as_aux_lemma => kernel_rfl
  · as_aux_lemma => kernel_rfl
  · as_aux_lemma => kernel_rfl
  · as_aux_lemma => kernel_rfl
  · as_aux_lemma => kernel_rfl
  · as_aux_lemma => kernel_rfl
  · as_aux_lemma => kernel_rfl
  · as_aux_lemma => kernel_rfl
theorem wrapper_of : Tryz.f4.isWrapper Tryz.prog Rows.wholeTwiceRow.wrapper Rows.wholeTwiceRow.mainSum := by unfold Func.isWrapper; first | (rw [if_pos (by decide +kernel)]; kernel_rfl) | (rw [if_neg (by decide +kernel)]; exact ⟨rfl, rfl⟩)
theorem named_of : Tryz.prog.funcNamed "epact/epacttop.WholeTwice" = some 4 := by kernel_rfl
theorem over : Rows.wholeTwiceRow.holds Tryz.pinned (OpenSpec.ofChange Rows.wholeTwiceSpec) :=
  OpenClaim.holds_of_wide 4 Tryz.f4 rfl rfl rfl rfl rfl rfl rfl ⟨rfl, rfl, rfl, rfl, rfl⟩ rfl rfl rfl rfl rfl named_of Tryz.func4 joined
    (of_decide_eq_true (by kernel_rfl)) wrapper_of
    (fun os started H enc _ => lifted os started H enc)
theorem byText : Rows.wholeTwiceRow.wfByText (OpenSpec.ofChange Rows.wholeTwiceSpec) = true := by kernel_rfl
theorem main_of : Tryz.prog.mainIs = some (true, "a5e92cdeb43a38ddbd0d8937355bc9b290e20584731649ef899c437057fd7b54".toList) := by kernel_rfl
theorem looks_of : true = Tryz.prog.looks [] := by kernel_rfl
theorem goes_of : false = Rows.wholeTwiceRow.goesBy Tryz.prog := by kernel_rfl
theorem plainly : ([24, 3, 3, 3].all fun u => !Tryz.prog.wantsStandIn u) = true := by kernel_rfl
theorem proved : Rows.WholeTwiceCardSaid :=
  Claim7.holds_tied_plain_at .later [] [.data, .data, .data, .data, .sentinel, .sentinel, .pinned] true (true, "a5e92cdeb43a38ddbd0d8937355bc9b290e20584731649ef899c437057fd7b54") true over (fun _ h => by cases h) byText (fun _ h => by cases h) wholeTwice_row_tie rfl ⟨rfl, rfl⟩ main_of rfl
    (fun f fn hf hfn => by
      obtain rfl : f = 4 := Option.some.inj (named_of.symm.trans hf) |>.symm
      obtain rfl : fn = Tryz.f4 := (Option.some.inj (Tryz.func4.symm.trans hfn)).symm
      exact ⟨looks_of, fun j t ht => by
        rw [Tryz.params4] at ht
        have hm : t ∈ [24, 3, 3, 3] := by simpa using Array.mem_of_getElem? ht
        exact (show Tryz.prog.wantsStandIn t = false by simpa using List.all_eq_true.1 plainly t hm)⟩)
    goes_of
end Go.Proofs.YtfcbohachbeamaaGreatDoor.wholeTwice
namespace Go.Proofs.YtfcbohachbeamaaGreatDoor
theorem wholeTwice_holds : Rows.WholeTwiceCardSaid := wholeTwice.proved
end Go.Proofs.YtfcbohachbeamaaGreatDoor
