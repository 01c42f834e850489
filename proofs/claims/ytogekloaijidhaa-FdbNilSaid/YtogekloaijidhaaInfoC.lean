/- WALKS: the program's functions on values, layers 8 and 15, that ask whether vectors are one. -/
import Derived.Test.YtogekloaijidhaaInfoB
import Derived.Test.YtogekloaijidhaaEq
import Derived.Test.YtogekloaijidhaaMore
set_option maxRecDepth 100000
namespace Go.Proofs.Ytogekloaijidhaa
open Go Go.RowKit

/-- a vector's numbers are of their kinds -/
structure Vec.wf (v : Vec) : Prop where
  root : 0 ≤ v.root ∧ v.root ≤ 18446744073709551615
  cost : 0 ≤ v.cost ∧ v.cost ≤ 4294967295
  bridge : 0 ≤ v.bridge ∧ v.bridge ≤ 18446744073709551615
  port : 0 ≤ v.port ∧ v.port ≤ 65535
set_option maxHeartbeats 1000000 in
theorem from_calls (a b : Vec) (ha : 0 ≤ a.port ∧ a.port ≤ 65535) (hb : 0 ≤ b.port ∧ b.port ≤ 65535) (w : World) : Calls Try.prog 91 #[.agg a.enc.toArray, .agg b.enc.toArray] w fun e w' => e = .returned (.bool (P.from a b)) ∧ Grow w w' := by
  go_enter Try.func91, Try.ntmps91
  go_wp2_with fail
  have hW : Grow w ((w.alloc (.cells a.enc.toArray 30)).alloc (.cells b.enc.toArray 30)) := ((Grow.refl _).alloc _).alloc _
  by_cases he : P.mac a.bridge = P.mac b.bridge
  · have hd : decide (P.mac a.bridge = P.mac b.bridge) = true := decide_eq_true he
    refine wp_region_ord (Ord.rds [0, 1, 3, 4] (.alt 2 (.alt 5 (Ord.rds [6, 7, 8, 9, 11, 12] (.alt 10 (.alt 13 (Ord.rds [14, 15, 16] .done) .stop) .stop)) .stop) .stop)) (by kernel_rfl) (by kernel_rfl) ?_
    repeat (first | (refine wpM_rdy rfl ?_ (fun K hK => ?_); exact wanted_plain rfl; go_simp; refine hK _ ?_; clear hK K) | (refine wpM_rdy rfl ?_ (fun K hK => ?_); exact wanted_yes rfl rfl rfl rfl; go_simp; refine hK _ ?_; clear hK K) | (refine wpM_rdn rfl ?_ (fun K hK => ?_); exact wanted_no rfl rfl rfl rfl; go_simp; refine hK _ ?_; clear hK K) | (refine wpM_rdn rfl ?_ (fun K hK => ?_); exact wanted_undef rfl rfl rfl rfl; go_simp; refine hK _ ?_; clear hK K))
    refine wpM_efy rfl ?_ (fun K hK _ => ?_) ((Grow.refl _).drew) wpM_stop; (first | exact wanted_plain rfl | exact wanted_yes rfl rfl rfl rfl)
    go_simp
    refine (mac_calls _ _).mono ?_
    rintro e w1 ⟨rfl, h1⟩
    have g1 := (Grow.refl _).drew.trans h1
    refine hK _ _ ⟨g1, ?_⟩; clear hK K
    refine wpM_efy rfl ?_ (fun K hK _ => ?_) (g1) wpM_stop; (first | exact wanted_plain rfl | exact wanted_yes rfl rfl rfl rfl)
    go_simp
    refine (mac_calls _ _).mono ?_
    rintro e w2 ⟨rfl, h2⟩
    have g2 := g1.trans h2
    refine hK _ _ ⟨g2, ?_⟩; clear hK K
    repeat (first | (refine wpM_rdy rfl ?_ (fun K hK => ?_); exact wanted_plain rfl; go_simp; refine hK _ ?_; clear hK K) | (refine wpM_rdy rfl ?_ (fun K hK => ?_); exact wanted_yes rfl rfl rfl rfl; go_simp; refine hK _ ?_; clear hK K) | (refine wpM_rdn rfl ?_ (fun K hK => ?_); exact wanted_no rfl rfl rfl rfl; go_simp; refine hK _ ?_; clear hK K) | (refine wpM_rdn rfl ?_ (fun K hK => ?_); exact wanted_undef rfl rfl rfl rfl; go_simp; refine hK _ ?_; clear hK K))
    refine wpM_efy rfl ?_ (fun K hK _ => ?_) (g2) wpM_stop; (first | exact wanted_plain rfl | exact wanted_yes rfl rfl rfl rfl)
    go_simp
    refine (portNumber_calls _ ha.1 ha.2 _).mono ?_
    rintro e w3 ⟨rfl, rfl⟩
    refine hK _ _ ⟨g2, ?_⟩; clear hK K
    refine wpM_efy rfl ?_ (fun K hK _ => ?_) (g2) wpM_stop; (first | exact wanted_plain rfl | exact wanted_yes rfl rfl rfl rfl)
    go_simp
    refine (portNumber_calls _ hb.1 hb.2 _).mono ?_
    rintro e w3 ⟨rfl, rfl⟩
    refine hK _ _ ⟨g2, ?_⟩; clear hK K
    repeat (first | (refine wpM_rdy rfl ?_ (fun K hK => ?_); exact wanted_plain rfl; go_simp; refine hK _ ?_; clear hK K) | (refine wpM_rdy rfl ?_ (fun K hK => ?_); exact wanted_yes rfl rfl rfl rfl; go_simp; refine hK _ ?_; clear hK K) | (refine wpM_rdn rfl ?_ (fun K hK => ?_); exact wanted_no rfl rfl rfl rfl; go_simp; refine hK _ ?_; clear hK K) | (refine wpM_rdn rfl ?_ (fun K hK => ?_); exact wanted_undef rfl rfl rfl rfl; go_simp; refine hK _ ?_; clear hK K))
    refine wpM_done ?_
    go_wp2
    go_ret
    exact ⟨by simp [P.from, he]; rfl, hW.trans g2⟩
  · have hd : decide (P.mac a.bridge = P.mac b.bridge) = false := decide_eq_false he
    refine wp_region_ord (Ord.rds [0, 1, 3, 4] (.alt 2 (.alt 5 (Ord.rds [6, 7, 8, 9, 11, 12] (.alt 10 (.alt 13 (Ord.rds [14, 15, 16] .done) .stop) .stop)) .stop) .stop)) (by kernel_rfl) (by kernel_rfl) ?_
    repeat (first | (refine wpM_rdy rfl ?_ (fun K hK => ?_); exact wanted_plain rfl; go_simp; refine hK _ ?_; clear hK K) | (refine wpM_rdy rfl ?_ (fun K hK => ?_); exact wanted_yes rfl rfl rfl rfl; go_simp; refine hK _ ?_; clear hK K) | (refine wpM_rdn rfl ?_ (fun K hK => ?_); exact wanted_no rfl rfl rfl rfl; go_simp; refine hK _ ?_; clear hK K) | (refine wpM_rdn rfl ?_ (fun K hK => ?_); exact wanted_undef rfl rfl rfl rfl; go_simp; refine hK _ ?_; clear hK K))
    refine wpM_efy rfl ?_ (fun K hK _ => ?_) ((Grow.refl _).drew) wpM_stop; (first | exact wanted_plain rfl | exact wanted_yes rfl rfl rfl rfl)
    go_simp
    refine (mac_calls _ _).mono ?_
    rintro e w1 ⟨rfl, h1⟩
    have g1 := (Grow.refl _).drew.trans h1
    refine hK _ _ ⟨g1, ?_⟩; clear hK K
    refine wpM_efy rfl ?_ (fun K hK _ => ?_) (g1) wpM_stop; (first | exact wanted_plain rfl | exact wanted_yes rfl rfl rfl rfl)
    go_simp
    refine (mac_calls _ _).mono ?_
    rintro e w2 ⟨rfl, h2⟩
    have g2 := g1.trans h2
    refine hK _ _ ⟨g2, ?_⟩; clear hK K
    repeat (first | (refine wpM_rdy rfl ?_ (fun K hK => ?_); exact wanted_plain rfl; go_simp; refine hK _ ?_; clear hK K) | (refine wpM_rdy rfl ?_ (fun K hK => ?_); exact wanted_yes rfl rfl rfl rfl; go_simp; refine hK _ ?_; clear hK K) | (refine wpM_rdn rfl ?_ (fun K hK => ?_); exact wanted_no rfl rfl rfl rfl; go_simp; refine hK _ ?_; clear hK K) | (refine wpM_rdn rfl ?_ (fun K hK => ?_); exact wanted_undef rfl rfl rfl rfl; go_simp; refine hK _ ?_; clear hK K))
    (refine wpM_efn rfl ?_ (fun K hK _ => ?_) (g2) wpM_stop; (first | exact wanted_no rfl rfl rfl rfl | exact wanted_undef rfl rfl rfl rfl); go_simp; refine hK _ _ ⟨g2, ?_⟩; clear hK K)
    repeat (first | (refine wpM_rdy rfl ?_ (fun K hK => ?_); exact wanted_plain rfl; go_simp; refine hK _ ?_; clear hK K) | (refine wpM_rdy rfl ?_ (fun K hK => ?_); exact wanted_yes rfl rfl rfl rfl; go_simp; refine hK _ ?_; clear hK K) | (refine wpM_rdn rfl ?_ (fun K hK => ?_); exact wanted_no rfl rfl rfl rfl; go_simp; refine hK _ ?_; clear hK K) | (refine wpM_rdn rfl ?_ (fun K hK => ?_); exact wanted_undef rfl rfl rfl rfl; go_simp; refine hK _ ?_; clear hK K))
    (refine wpM_efn rfl ?_ (fun K hK _ => ?_) (g2) wpM_stop; (first | exact wanted_no rfl rfl rfl rfl | exact wanted_undef rfl rfl rfl rfl); go_simp; refine hK _ _ ⟨g2, ?_⟩; clear hK K)
    repeat (first | (refine wpM_rdy rfl ?_ (fun K hK => ?_); exact wanted_plain rfl; go_simp; refine hK _ ?_; clear hK K) | (refine wpM_rdy rfl ?_ (fun K hK => ?_); exact wanted_yes rfl rfl rfl rfl; go_simp; refine hK _ ?_; clear hK K) | (refine wpM_rdn rfl ?_ (fun K hK => ?_); exact wanted_no rfl rfl rfl rfl; go_simp; refine hK _ ?_; clear hK K) | (refine wpM_rdn rfl ?_ (fun K hK => ?_); exact wanted_undef rfl rfl rfl rfl; go_simp; refine hK _ ?_; clear hK K))
    refine wpM_done ?_
    go_wp2
    go_ret
    exact ⟨by simp [P.from, he], hW.trans g2⟩
set_option maxHeartbeats 1000000 in
theorem superiorV_calls (a b : Vec) (ha : 0 ≤ a.port ∧ a.port ≤ 65535) (hb : 0 ≤ b.port ∧ b.port ≤ 65535) (w : World) : Calls Try.prog 73 #[.agg a.enc.toArray, .agg b.enc.toArray] w fun e w' => e = .returned (.bool (P.superiorV a b)) ∧ Grow w w' := by
  go_enter Try.func73, Try.ntmps73
  go_wp2_with fail
  obtain ⟨w1, g1, f1, f2, new1, new2, ne12, ne21, e⟩ := box2 w a.enc b.enc 30 30; rw [e]; clear e; simp only [Vec.length_enc, Vec.length_enc] at f1 f2; generalize w.heap.size + 1 = n2 at *; generalize w.heap.size = n1 at *
  refine (better_calls _ _ _).mono ?_
  rintro e w2 ⟨rfl, h2⟩
  obtain ⟨w2, g2, rfl⟩ := h2.unput2 f1 f2 ne12
  clear h2
  have g1 := g1.trans g2
  replace f1 := g2.fit f1
  replace f2 := g2.fit f2
  go_wp2_with (go_at_call 91; (with_reducible refine (from_calls _ _ ha hb _).mono ?_); rintro e w3 ⟨rfl, h3⟩; obtain ⟨w3, g3, rfl⟩ := h3.unput2 f1 f2 ne12; have g1 := g1.trans g3; have f1 := g3.fit f1; have f2 := g3.fit f2)
  all_goals go_ret
  all_goals refine ⟨?_, (Grow.new (Grow.new (by assumption) new1) new2)⟩
  all_goals simp_all [P.superiorV]
end Go.Proofs.Ytogekloaijidhaa
