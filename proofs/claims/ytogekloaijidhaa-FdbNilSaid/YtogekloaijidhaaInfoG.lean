/- WALKS: what a port's machine does: superior. -/
import Derived.Test.YtogekloaijidhaaInfoF
set_option maxRecDepth 100000
namespace Go.Proofs.Ytogekloaijidhaa
open Go Go.RowKit

set_option maxHeartbeats 1000000 in
theorem superior_calls (w : World) (b o : Nat) (p : Prt) (h : Fit w b o 90) (hm : p.msg.wf) (hh : -2147483648 ≤ p.msgTimes.hello ∧ p.msgTimes.hello ≤ 2147483648) :
    Calls Try.prog 55 #[.pointer (some ⟨b, o, none⟩)] (put w b o p.enc) fun e w' => e = .returned (.tuple #[]) ∧ Done w b o (P.superior p).enc w' := by
  go_enter Try.func55, Try.ntmps55
  go_wp2_with fail
  refine (propose_calls _ _ _ _ h ?_).mono ?_
  · exact hm
  rintro e w' ⟨rfl, w1, g1, rfl⟩
  have h := g1.fit h
  go_wp2_with fail
  refine (flags_calls _ _ _ _ h ?_).mono ?_
  · exact hm
  rintro e w' ⟨rfl, w2, g2, rfl⟩
  have h := g2.fit h
  generalize hq : P.flags _ = q
  replace hq : P.flags (P.propose { p with agreed := false, proposing := false }) = q := hq
  have hh : -2147483648 ≤ q.msgTimes.hello ∧ q.msgTimes.hello ≤ 2147483648 := by rw [← hq]; exact hh
  have HQ := Lib.hid hq
  clear hq
  replace g2 := g1.trans g2
  clear g1
  by_cases ha : q.agree = true
  · go_wp2_with fail
    refine (bos_calls _ _ _ _ 3 h).mono ?_
    rintro e w' ⟨rfl, w3, g3, rfl⟩
    have h := g3.fit h
    generalize hbs : P.bos q 3 = bb
    cases bb
    all_goals go_wp2_with fail
    all_goals
      refine wp_region_ordS [12, 15] (Ord.rds [0, 1, 2, 3, 4, 5, 6, 7, 8, 9, 10, 11] (.alt 12 (Ord.rds [13, 14] (.alt 15 .done .stop)) .stop)) (by kernel_rfl) (by kernel_rfl) ?_
      repeat (first | (refine wpS_rdy rfl ?_ (fun K hK => ?_); exact wanted_plain rfl; go_simp; refine hK _ ?_; clear hK K) | (refine wpS_rdy rfl ?_ (fun K hK => ?_); exact wanted_yes rfl rfl rfl rfl; go_simp; refine hK _ ?_; clear hK K) | (refine wpS_rdn rfl ?_ (fun K hK => ?_); exact wanted_no rfl rfl rfl rfl; go_simp; refine hK _ ?_; clear hK K) | (refine wpS_rdn rfl ?_ (fun K hK => ?_); exact wanted_undef rfl rfl rfl rfl; go_simp; refine hK _ ?_; clear hK K))
      (refine wpS_sty rfl rfl ?_ (fun K hK => ?_) wpS_stop; exact wanted_plain rfl; go_simp; refine hK _ _ ?_; clear hK K)
      repeat (first | (refine wpS_rdy rfl ?_ (fun K hK => ?_); exact wanted_plain rfl; go_simp; refine hK _ ?_; clear hK K) | (refine wpS_rdy rfl ?_ (fun K hK => ?_); exact wanted_yes rfl rfl rfl rfl; go_simp; refine hK _ ?_; clear hK K) | (refine wpS_rdn rfl ?_ (fun K hK => ?_); exact wanted_no rfl rfl rfl rfl; go_simp; refine hK _ ?_; clear hK K) | (refine wpS_rdn rfl ?_ (fun K hK => ?_); exact wanted_undef rfl rfl rfl rfl; go_simp; refine hK _ ?_; clear hK K))
      (refine wpS_sty rfl rfl ?_ (fun K hK => ?_) wpS_stop; exact wanted_plain rfl; go_simp; refine hK _ _ ?_; clear hK K)
      refine wpS_done ?_
      go_wp2_with fail
      refine (lives_calls _ _ _ _ (Fit.drew.2 h) ?_).mono ?_
      · exact hh
      rintro e w' ⟨rfl, w4, g4, rfl⟩
      have h := g4.fit (Fit.drew.2 h)
      go_wp2
      go_end0
      refine ⟨rfl, _, ((g2.trans g3).drew).trans g4, ?_⟩
      simp [P.superior, HQ.out, ha, hbs, P.lives]
  · replace ha : q.agree = false := by simpa using ha
    go_wp2_with fail
    all_goals
      refine wp_region_ordS [12, 15] (Ord.rds [0, 1, 2, 3, 4, 5, 6, 7, 8, 9, 10, 11] (.alt 12 (Ord.rds [13, 14] (.alt 15 .done .stop)) .stop)) (by kernel_rfl) (by kernel_rfl) ?_
      repeat (first | (refine wpS_rdy rfl ?_ (fun K hK => ?_); exact wanted_plain rfl; go_simp; refine hK _ ?_; clear hK K) | (refine wpS_rdy rfl ?_ (fun K hK => ?_); exact wanted_yes rfl rfl rfl rfl; go_simp; refine hK _ ?_; clear hK K) | (refine wpS_rdn rfl ?_ (fun K hK => ?_); exact wanted_no rfl rfl rfl rfl; go_simp; refine hK _ ?_; clear hK K) | (refine wpS_rdn rfl ?_ (fun K hK => ?_); exact wanted_undef rfl rfl rfl rfl; go_simp; refine hK _ ?_; clear hK K))
      (refine wpS_sty rfl rfl ?_ (fun K hK => ?_) wpS_stop; exact wanted_plain rfl; go_simp; refine hK _ _ ?_; clear hK K)
      repeat (first | (refine wpS_rdy rfl ?_ (fun K hK => ?_); exact wanted_plain rfl; go_simp; refine hK _ ?_; clear hK K) | (refine wpS_rdy rfl ?_ (fun K hK => ?_); exact wanted_yes rfl rfl rfl rfl; go_simp; refine hK _ ?_; clear hK K) | (refine wpS_rdn rfl ?_ (fun K hK => ?_); exact wanted_no rfl rfl rfl rfl; go_simp; refine hK _ ?_; clear hK K) | (refine wpS_rdn rfl ?_ (fun K hK => ?_); exact wanted_undef rfl rfl rfl rfl; go_simp; refine hK _ ?_; clear hK K))
      (refine wpS_sty rfl rfl ?_ (fun K hK => ?_) wpS_stop; exact wanted_plain rfl; go_simp; refine hK _ _ ?_; clear hK K)
      refine wpS_done ?_
      go_wp2_with fail
      refine (lives_calls _ _ _ _ (Fit.drew.2 h) ?_).mono ?_
      · exact hh
      rintro e w' ⟨rfl, w4, g4, rfl⟩
      have h := g4.fit (Fit.drew.2 h)
      go_wp2
      go_end0
      refine ⟨rfl, _, g2.drew.trans g4, ?_⟩
      simp [P.superior, HQ.out, ha, P.lives]
end Go.Proofs.Ytogekloaijidhaa
