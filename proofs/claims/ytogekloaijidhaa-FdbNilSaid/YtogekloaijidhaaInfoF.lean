/- WALKS: what a port's machine does: update, superior, agreed. -/
import Derived.Test.YtogekloaijidhaaInfoE
set_option maxRecDepth 100000
namespace Go.Proofs.Ytogekloaijidhaa
open Go Go.RowKit

theorem Done.trans {w w' w1 : World} {b o : Nat} {l : List Value} (g : Grow w w1) (h : Done w1 b o l w') : Done w b o l w' := by
  obtain ⟨w2, g2, rfl⟩ := h
  exact ⟨w2, g.trans g2, rfl⟩
set_option maxHeartbeats 400000 in
theorem agreed_calls (w : World) (bb bo b o : Nat) (r : Bool) (p : Prt) (h : Fit w b o 90) (hm : p.msg.wf) (hb : bb ≠ b) (hr : At w bb (bo + 6) [.bool r]) :
    Calls Try.prog 60 #[.pointer (some ⟨bb, bo, none⟩), .pointer (some ⟨b, o, none⟩)] (put w b o p.enc) fun e w' => e = .returned (.tuple #[]) ∧ Done w b o (P.agreed r p).enc w' := by
  have hc : w.cell? ⟨bb, bo + 6, none⟩ = some (.bool r) := hr.cell (k := 0) (by simp)
  go_enter Try.func60, Try.ntmps60
  cases r
  · go_wp2_with fail
    all_goals
      refine (flags_calls _ _ _ _ h ?_).mono ?_
      · exact hm
      rintro e w' ⟨rfl, w2, g2, rfl⟩
      go_wp2
      go_end0
      refine ⟨rfl, w2, g2, ?_⟩
      simp_all [P.agreed]
  · by_cases hpp : p.pointToPoint = true
    · go_wp2_with fail
      refine (flagged_calls p.msg hm 4 (by decide) _).mono ?_
      rintro e w' ⟨rfl, h1⟩
      obtain ⟨w1, g1, rfl⟩ := h1.unput h
      have h := g1.fit h
      have hf : P.flagged p.msg 64 = P.flagged p.msg ([1, 2, 16, 32, 64, 128].getD 4 0) := rfl
      go_wp2_with fail
      all_goals
        refine (flags_calls _ _ _ _ h ?_).mono ?_
        · exact hm
        rintro e w' ⟨rfl, w2, g2, rfl⟩
        go_wp2
        go_end0
        refine ⟨rfl, w2, g1.trans g2, ?_⟩
        simp_all [P.agreed]
    · replace hpp : p.pointToPoint = false := by simpa using hpp
      go_wp2_with fail
      all_goals
        refine (flags_calls _ _ _ _ h ?_).mono ?_
        · exact hm
        rintro e w' ⟨rfl, w2, g2, rfl⟩
        go_wp2
        go_end0
        refine ⟨rfl, w2, g2, ?_⟩
        simp_all [P.agreed]
set_option maxHeartbeats 1000000 in
theorem update_calls (w : World) (b o : Nat) (p : Prt) (h : Fit w b o 90) :
    Calls Try.prog 30 #[.pointer (some ⟨b, o, none⟩)] (put w b o p.enc) fun e w' => e = .returned (.tuple #[]) ∧ Done w b o (P.update p).enc w' := by
  go_enter Try.func30, Try.ntmps30
  by_cases ha : p.agreed = true
  · go_wp2_with fail
    refine (bos_calls _ _ _ _ 2 h).mono ?_
    rintro e w' ⟨rfl, w1, g1, rfl⟩
    have h := g1.fit h
    generalize hbs : P.bos _ 2 = bb
    replace hbs : P.bos p 2 = bb := hbs
    cases bb
    all_goals go_wp2_with fail
    all_goals
      refine wp_region_ordS [12, 15] (Ord.rds [0, 1, 2, 3, 4, 5, 6, 7, 8, 9, 10, 11] (.alt 12 (Ord.rds [13, 14] (.alt 15 .done .stop)) .stop)) (by kernel_rfl) (by kernel_rfl) ?_
      repeat (first | (refine wpS_rdy rfl ?_ (fun K hK => ?_); exact wanted_plain rfl; go_simp; refine hK _ ?_; clear hK K) | (refine wpS_rdy rfl ?_ (fun K hK => ?_); exact wanted_yes rfl rfl rfl rfl; go_simp; refine hK _ ?_; clear hK K) | (refine wpS_rdn rfl ?_ (fun K hK => ?_); exact wanted_no rfl rfl rfl rfl; go_simp; refine hK _ ?_; clear hK K) | (refine wpS_rdn rfl ?_ (fun K hK => ?_); exact wanted_undef rfl rfl rfl rfl; go_simp; refine hK _ ?_; clear hK K))
      (refine wpS_sty rfl rfl ?_ (fun K hK => ?_) wpS_stop; exact wanted_plain rfl; go_simp; refine hK _ _ ?_; clear hK K)
      repeat (first | (refine wpS_rdy rfl ?_ (fun K hK => ?_); exact wanted_plain rfl; go_simp; refine hK _ ?_; clear hK K) | (refine wpS_rdy rfl ?_ (fun K hK => ?_); exact wanted_yes rfl rfl rfl rfl; go_simp; refine hK _ ?_; clear hK K) | (refine wpS_rdn rfl ?_ (fun K hK => ?_); exact wanted_no rfl rfl rfl rfl; go_simp; refine hK _ ?_; clear hK K) | (refine wpS_rdn rfl ?_ (fun K hK => ?_); exact wanted_undef rfl rfl rfl rfl; go_simp; refine hK _ ?_; clear hK K))
      (refine wpS_sty rfl rfl ?_ (fun K hK => ?_) wpS_stop; exact wanted_plain rfl; go_simp; refine hK _ _ ?_; clear hK K)
      refine wpS_done ?_
      go_wp2
      go_end0
      refine ⟨rfl, _, g1.drew, ?_⟩
      simp_all [P.update]
  · replace ha : p.agreed = false := by simpa using ha
    go_wp2_with fail
    all_goals
      refine wp_region_ordS [12, 15] (Ord.rds [0, 1, 2, 3, 4, 5, 6, 7, 8, 9, 10, 11] (.alt 12 (Ord.rds [13, 14] (.alt 15 .done .stop)) .stop)) (by kernel_rfl) (by kernel_rfl) ?_
      repeat (first | (refine wpS_rdy rfl ?_ (fun K hK => ?_); exact wanted_plain rfl; go_simp; refine hK _ ?_; clear hK K) | (refine wpS_rdy rfl ?_ (fun K hK => ?_); exact wanted_yes rfl rfl rfl rfl; go_simp; refine hK _ ?_; clear hK K) | (refine wpS_rdn rfl ?_ (fun K hK => ?_); exact wanted_no rfl rfl rfl rfl; go_simp; refine hK _ ?_; clear hK K) | (refine wpS_rdn rfl ?_ (fun K hK => ?_); exact wanted_undef rfl rfl rfl rfl; go_simp; refine hK _ ?_; clear hK K))
      (refine wpS_sty rfl rfl ?_ (fun K hK => ?_) wpS_stop; exact wanted_plain rfl; go_simp; refine hK _ _ ?_; clear hK K)
      repeat (first | (refine wpS_rdy rfl ?_ (fun K hK => ?_); exact wanted_plain rfl; go_simp; refine hK _ ?_; clear hK K) | (refine wpS_rdy rfl ?_ (fun K hK => ?_); exact wanted_yes rfl rfl rfl rfl; go_simp; refine hK _ ?_; clear hK K) | (refine wpS_rdn rfl ?_ (fun K hK => ?_); exact wanted_no rfl rfl rfl rfl; go_simp; refine hK _ ?_; clear hK K) | (refine wpS_rdn rfl ?_ (fun K hK => ?_); exact wanted_undef rfl rfl rfl rfl; go_simp; refine hK _ ?_; clear hK K))
      (refine wpS_sty rfl rfl ?_ (fun K hK => ?_) wpS_stop; exact wanted_plain rfl; go_simp; refine hK _ _ ?_; clear hK K)
      refine wpS_done ?_
      go_wp2
      go_end0
      refine ⟨rfl, _, (Grow.refl w).drew, ?_⟩
      simp_all [P.update]
end Go.Proofs.Ytogekloaijidhaa
