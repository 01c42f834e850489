/- WALKS: the program's functions on a port, layers 13 and 15: what is written, and that nothing else is. -/
import Derived.Test.YtogekloaijidhaaInfoC
import Derived.Test.YtogekloaijidhaaOrdS
set_option maxRecDepth 100000
namespace Go.Proofs.Ytogekloaijidhaa
open Go Go.RowKit

/-- w' is w, and more, with l put at block b from o on -/
def Done (w : World) (b o : Nat) (l : List Value) (w' : World) : Prop := ∃ w1, Grow w w1 ∧ w' = put w1 b o l
theorem Done.now (w : World) (b o : Nat) (l : List Value) : Done w b o l (put w b o l) := ⟨w, Grow.refl w, rfl⟩
/-- a port's numbers are of their kinds, as far as is asked here -/
structure Prt.wf (p : Prt) : Prop where
  msg : p.msg.wf
  mport : 0 ≤ p.msg.vector.port ∧ p.msg.vector.port ≤ 65535
  vport : 0 ≤ p.vector.port ∧ p.vector.port ≤ 65535
  hello : -2147483648 ≤ p.portTimes.hello ∧ p.portTimes.hello ≤ 2147483648
theorem disable_calls (w : World) (b o : Nat) (p : Prt) (h : Fit w b o 90) :
    Calls Try.prog 28 #[.pointer (some ⟨b, o, none⟩)] (put w b o p.enc) fun e w' => e = .returned (.tuple #[]) ∧ Done w b o (P.disable p).enc w' := by
  go_enter Try.func28, Try.ntmps28
  go_wp2
  go_end0
  exact ⟨rfl, Done.now ..⟩
theorem age_calls (w : World) (b o : Nat) (p : Prt) (h : Fit w b o 90) :
    Calls Try.prog 29 #[.pointer (some ⟨b, o, none⟩)] (put w b o p.enc) fun e w' => e = .returned (.tuple #[]) ∧ Done w b o (P.age p).enc w' := by
  go_enter Try.func29, Try.ntmps29
  go_wp2
  go_end0
  exact ⟨rfl, Done.now ..⟩
set_option maxHeartbeats 400000 in
theorem flags_calls (w : World) (b o : Nat) (p : Prt) (h : Fit w b o 90) (hm : p.msg.wf) :
    Calls Try.prog 57 #[.pointer (some ⟨b, o, none⟩)] (put w b o p.enc) fun e w' => e = .returned (.tuple #[]) ∧ Done w b o (P.flags p).enc w' := by
  have h1 := bit_and p.msg.flags hm.flags.1 hm.flags.2 0 (by decide)
  have h2 := bit_and p.msg.flags hm.flags.1 hm.flags.2 5 (by decide)
  simp only [List.getD_cons_zero, List.getD_cons_succ] at h1 h2
  go_enter Try.func57, Try.ntmps57
  go_wp2
  all_goals go_end0
  all_goals refine ⟨rfl, ⟨w, Grow.refl w, ?_⟩⟩
  all_goals simp_all [P.flags]
theorem propose_calls (w : World) (b o : Nat) (p : Prt) (h : Fit w b o 90) (hm : p.msg.wf) :
    Calls Try.prog 56 #[.pointer (some ⟨b, o, none⟩)] (put w b o p.enc) fun e w' => e = .returned (.tuple #[]) ∧ Done w b o (P.propose p).enc w' := by
  go_enter Try.func56, Try.ntmps56
  go_wp2_with (go_at_call 59; refine (flagged_calls p.msg hm 1 (by decide) _).mono ?_; rintro e w' ⟨rfl, h1⟩; obtain ⟨w1, g1, rfl⟩ := h1.unput h; have h := g1.fit h)
  all_goals go_end0
  all_goals refine ⟨rfl, ⟨_, (by first | assumption | exact Grow.refl _), ?_⟩⟩
  all_goals simp_all [P.propose]
set_option maxHeartbeats 400000 in
theorem bos_calls (w : World) (b o : Nat) (p : Prt) (i : Int) (h : Fit w b o 90) :
    Calls Try.prog 52 #[.pointer (some ⟨b, o, none⟩), .int .i64 i] (put w b o p.enc) fun e w' => e = .returned (.bool (P.bos p i)) ∧ Done w b o p.enc w' := by
  go_enter Try.func52, Try.ntmps52
  go_wp2_with fail
  · go_ret
    exact ⟨by simp_all [P.bos], Done.now ..⟩
  · refine wp_region_ord (Ord.rds [0, 1, 2, 3, 4, 5, 6, 7] (.alt 8 (Ord.rds [9, 10] .done) .stop)) (by kernel_rfl) (by kernel_rfl) ?_
    repeat (first | (refine wpM_rdy rfl ?_ (fun K hK => ?_); exact wanted_plain rfl; go_simp; refine hK _ ?_; clear hK K) | (refine wpM_rdy rfl ?_ (fun K hK => ?_); exact wanted_yes rfl rfl rfl rfl; go_simp; refine hK _ ?_; clear hK K) | (refine wpM_rdn rfl ?_ (fun K hK => ?_); exact wanted_no rfl rfl rfl rfl; go_simp; refine hK _ ?_; clear hK K) | (refine wpM_rdn rfl ?_ (fun K hK => ?_); exact wanted_undef rfl rfl rfl rfl; go_simp; refine hK _ ?_; clear hK K))
    refine wpM_efy rfl ?_ (fun K hK _ => ?_) ((Grow.refl _).drew) wpM_stop; (first | exact wanted_plain rfl | exact wanted_yes rfl rfl rfl rfl)
    go_simp
    refine (better_calls _ _ _).mono ?_
    rintro e w' ⟨rfl, h1⟩
    obtain ⟨w1, g1, rfl⟩ := h1.unput h
    have g : Grow (put w b o p.enc) (put w1 b o p.enc) := (Grow.refl _).drew.trans h1
    refine hK _ _ ⟨g, ?_⟩; clear hK K
    repeat (first | (refine wpM_rdy rfl ?_ (fun K hK => ?_); exact wanted_plain rfl; go_simp; refine hK _ ?_; clear hK K) | (refine wpM_rdy rfl ?_ (fun K hK => ?_); exact wanted_yes rfl rfl rfl rfl; go_simp; refine hK _ ?_; clear hK K) | (refine wpM_rdn rfl ?_ (fun K hK => ?_); exact wanted_no rfl rfl rfl rfl; go_simp; refine hK _ ?_; clear hK K) | (refine wpM_rdn rfl ?_ (fun K hK => ?_); exact wanted_undef rfl rfl rfl rfl; go_simp; refine hK _ ?_; clear hK K))
    refine wpM_done ?_
    go_wp2
    go_ret
    exact ⟨by simp_all [P.bos], ⟨w1, (Grow.refl _).drew.trans g1, rfl⟩⟩
  · refine wp_region_ord (Ord.rds [0, 1, 2, 3, 4, 5, 6, 7] (.alt 8 (Ord.rds [9, 10] .done) .stop)) (by kernel_rfl) (by kernel_rfl) ?_
    repeat (first | (refine wpM_rdy rfl ?_ (fun K hK => ?_); exact wanted_plain rfl; go_simp; refine hK _ ?_; clear hK K) | (refine wpM_rdy rfl ?_ (fun K hK => ?_); exact wanted_yes rfl rfl rfl rfl; go_simp; refine hK _ ?_; clear hK K) | (refine wpM_rdn rfl ?_ (fun K hK => ?_); exact wanted_no rfl rfl rfl rfl; go_simp; refine hK _ ?_; clear hK K) | (refine wpM_rdn rfl ?_ (fun K hK => ?_); exact wanted_undef rfl rfl rfl rfl; go_simp; refine hK _ ?_; clear hK K))
    refine wpM_efy rfl ?_ (fun K hK _ => ?_) ((Grow.refl _).drew) wpM_stop; (first | exact wanted_plain rfl | exact wanted_yes rfl rfl rfl rfl)
    go_simp
    refine (better_calls _ _ _).mono ?_
    rintro e w' ⟨rfl, h1⟩
    obtain ⟨w1, g1, rfl⟩ := h1.unput h
    have g : Grow (put w b o p.enc) (put w1 b o p.enc) := (Grow.refl _).drew.trans h1
    refine hK _ _ ⟨g, ?_⟩; clear hK K
    repeat (first | (refine wpM_rdy rfl ?_ (fun K hK => ?_); exact wanted_plain rfl; go_simp; refine hK _ ?_; clear hK K) | (refine wpM_rdy rfl ?_ (fun K hK => ?_); exact wanted_yes rfl rfl rfl rfl; go_simp; refine hK _ ?_; clear hK K) | (refine wpM_rdn rfl ?_ (fun K hK => ?_); exact wanted_no rfl rfl rfl rfl; go_simp; refine hK _ ?_; clear hK K) | (refine wpM_rdn rfl ?_ (fun K hK => ?_); exact wanted_undef rfl rfl rfl rfl; go_simp; refine hK _ ?_; clear hK K))
    refine wpM_done ?_
    go_wp2
    go_ret
    exact ⟨by simp_all [P.bos], ⟨w1, (Grow.refl _).drew.trans g1, rfl⟩⟩
  · go_ret
    exact ⟨by simp_all [P.bos], Done.now ..⟩
set_option maxHeartbeats 400000 in
theorem lives_calls (w : World) (b o : Nat) (p : Prt) (h : Fit w b o 90) (hh : -2147483648 ≤ p.portTimes.hello ∧ p.portTimes.hello ≤ 2147483648) :
    Calls Try.prog 58 #[.pointer (some ⟨b, o, none⟩)] (put w b o p.enc) fun e w' => e = .returned (.tuple #[]) ∧ Done w b o (P.lives p).enc w' := by
  go_enter Try.func58, Try.ntmps58
  go_wp2_with fail
  refine wp_region_ordS [13] (Ord.rds [0, 1, 2, 3, 4, 5, 6, 7, 8, 9] (.alt 10 (Ord.rds [11, 12] (.alt 13 .done .stop)) .stop)) (by kernel_rfl) (by kernel_rfl) ?_
  repeat (first | (refine wpS_rdy rfl ?_ (fun K hK => ?_); exact wanted_plain rfl; go_simp; refine hK _ ?_; clear hK K) | (refine wpS_rdy rfl ?_ (fun K hK => ?_); exact wanted_yes rfl rfl rfl rfl; go_simp; refine hK _ ?_; clear hK K) | (refine wpS_rdn rfl ?_ (fun K hK => ?_); exact wanted_no rfl rfl rfl rfl; go_simp; refine hK _ ?_; clear hK K) | (refine wpS_rdn rfl ?_ (fun K hK => ?_); exact wanted_undef rfl rfl rfl rfl; go_simp; refine hK _ ?_; clear hK K))
  refine wpS_efy rfl ?_ (fun K hK _ => ?_) ((Grow.refl _).drew) wpS_stop; (first | exact wanted_plain rfl | exact wanted_yes rfl rfl rfl rfl)
  go_simp
  refine (livesT_calls _ _ hh _).mono ?_
  rintro e w' ⟨rfl, h1⟩
  obtain ⟨w1, g1, rfl⟩ := h1.unput h
  have h' := g1.fit h
  have g : Grow (put w b o p.enc) (put w1 b o p.enc) := (Grow.refl _).drew.trans h1
  refine hK _ _ ⟨g, ?_⟩; clear hK K
  repeat (first | (refine wpS_rdy rfl ?_ (fun K hK => ?_); exact wanted_plain rfl; go_simp; refine hK _ ?_; clear hK K) | (refine wpS_rdy rfl ?_ (fun K hK => ?_); exact wanted_yes rfl rfl rfl rfl; go_simp; refine hK _ ?_; clear hK K) | (refine wpS_rdn rfl ?_ (fun K hK => ?_); exact wanted_no rfl rfl rfl rfl; go_simp; refine hK _ ?_; clear hK K) | (refine wpS_rdn rfl ?_ (fun K hK => ?_); exact wanted_undef rfl rfl rfl rfl; go_simp; refine hK _ ?_; clear hK K))
  (refine wpS_sty rfl rfl ?_ (fun K hK => ?_) wpS_stop; exact wanted_plain rfl; go_simp; refine hK _ _ ?_; clear hK K)
  refine wpS_done ?_
  go_wp2
  go_end0
  exact ⟨rfl, ⟨w1, (Grow.refl _).drew.trans g1, rfl⟩⟩
end Go.Proofs.Ytogekloaijidhaa
