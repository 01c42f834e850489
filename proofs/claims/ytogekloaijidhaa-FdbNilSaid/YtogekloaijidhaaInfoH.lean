/- WALKS: what a port makes of a message (info.hear), which port it is (port.Of), and what its machine does next (info.Step). -/
import Derived.Test.YtogekloaijidhaaInfoG
set_option maxRecDepth 100000
namespace Go.Proofs.Ytogekloaijidhaa
open Go Go.RowKit

theorem times_hello (m : Bpdu) (h : m.wf) : -2147483648 ≤ (P.timesOf m).hello ∧ (P.timesOf m).hello ≤ 2147483648 := by
  obtain ⟨_, _, _, hh, _⟩ := h
  unfold P.timesOf
  simp only
  split <;> omega
/-- what a port knows behind hear's first three statements -/
def P.heard (p : Prt) : Prt := { p with rcvdInfo := P.news p, msgVector := p.msg.vector, msgTimes := P.timesOf p.msg, rcvdTcn := p.rcvdTcn || decide (p.msg.kind = 2) }
def hearOf (r : Bool) (q : Prt) (n : Int) : Prt :=
  { (if n = 1 then P.superior q else if n = 2 then P.lives (P.flags (P.propose q)) else if n = 3 then (if P.flagged q.msg 16 then { q with disputed := true, agreed := false } else q) else if n = 4 then P.agreed r q else q) with rcvdMsg := false }
set_option maxHeartbeats 2000000 in
theorem hear_calls (w : World) (bb bo b o : Nat) (r : Bool) (p : Prt) (h : Fit w b o 90) (hp : p.wf) (hb : bb ≠ b) (hr : At w bb (bo + 6) [.bool r]) :
    Calls Try.prog 31 #[.pointer (some ⟨bb, bo, none⟩), .pointer (some ⟨b, o, none⟩)] (put w b o p.enc) fun e w' => e = .returned (.tuple #[]) ∧ Done w b o (P.hear r p).enc w' := by
  have hm := hp.msg
  have hth := times_hello p.msg hm
  go_enter Try.func31, Try.ntmps31
  go_wp2_with fail
  refine (news_calls _ _ _ _ h hp).mono ?_
  rintro e w' ⟨rfl, w1, g1, rfl⟩
  have h := g1.fit h
  have hr := g1.at hr
  go_wp2_with fail
  refine wp_region_ordS [14, 17] (Ord.rds [0, 1, 2, 3, 4, 5, 6, 7, 8, 9, 10] (.alt 11 (Ord.rds [12, 13] (.alt 14 (Ord.rds [15, 16] (.alt 17 .done .stop)) .stop)) .stop)) (by kernel_rfl) (by kernel_rfl) ?_
  repeat (first | (refine wpS_rdy rfl ?_ (fun K hK => ?_); exact wanted_plain rfl; go_simp; refine hK _ ?_; clear hK K) | (refine wpS_rdy rfl ?_ (fun K hK => ?_); exact wanted_yes rfl rfl rfl rfl; go_simp; refine hK _ ?_; clear hK K) | (refine wpS_rdn rfl ?_ (fun K hK => ?_); exact wanted_no rfl rfl rfl rfl; go_simp; refine hK _ ?_; clear hK K) | (refine wpS_rdn rfl ?_ (fun K hK => ?_); exact wanted_undef rfl rfl rfl rfl; go_simp; refine hK _ ?_; clear hK K))
  refine wpS_efy rfl ?_ (fun K hK _ => ?_) ((Grow.refl _).drew) wpS_stop; (first | exact wanted_plain rfl | exact wanted_yes rfl rfl rfl rfl)
  go_simp
  refine (timesOf_calls _ hm _).mono ?_
  rintro e w' ⟨rfl, h1⟩
  obtain ⟨w2, g2, rfl⟩ := h1.unput h
  have h' := g2.fit h
  have g : Grow (put w1 b o ({ p with rcvdInfo := P.news p } : Prt).enc) (put w2 b o ({ p with rcvdInfo := P.news p } : Prt).enc) := (Grow.refl _).drew.trans h1
  refine hK _ _ ⟨g, ?_⟩; clear hK K
  repeat (first | (refine wpS_rdy rfl ?_ (fun K hK => ?_); exact wanted_plain rfl; go_simp; refine hK _ ?_; clear hK K) | (refine wpS_rdy rfl ?_ (fun K hK => ?_); exact wanted_yes rfl rfl rfl rfl; go_simp; refine hK _ ?_; clear hK K) | (refine wpS_rdn rfl ?_ (fun K hK => ?_); exact wanted_no rfl rfl rfl rfl; go_simp; refine hK _ ?_; clear hK K) | (refine wpS_rdn rfl ?_ (fun K hK => ?_); exact wanted_undef rfl rfl rfl rfl; go_simp; refine hK _ ?_; clear hK K))
  (refine wpS_sty rfl rfl ?_ (fun K hK => ?_) wpS_stop; exact wanted_plain rfl; go_simp; refine hK _ _ ?_; clear hK K)
  repeat (first | (refine wpS_rdy rfl ?_ (fun K hK => ?_); exact wanted_plain rfl; go_simp; refine hK _ ?_; clear hK K) | (refine wpS_rdy rfl ?_ (fun K hK => ?_); exact wanted_yes rfl rfl rfl rfl; go_simp; refine hK _ ?_; clear hK K) | (refine wpS_rdn rfl ?_ (fun K hK => ?_); exact wanted_no rfl rfl rfl rfl; go_simp; refine hK _ ?_; clear hK K) | (refine wpS_rdn rfl ?_ (fun K hK => ?_); exact wanted_undef rfl rfl rfl rfl; go_simp; refine hK _ ?_; clear hK K))
  (refine wpS_sty rfl rfl ?_ (fun K hK => ?_) wpS_stop; exact wanted_plain rfl; go_simp; refine hK _ _ ?_; clear hK K)
  refine wpS_done ?_
  go_upto_region 2 with (fail)
  go_cut [25] (fun _ w' => w' = put w2 b o (P.heard p).enc)
  case first =>
    by_cases hk : p.msg.kind = 2
    · have hk' : (p.msg.kind == 2) = true := by simp [hk]
      have HK := Lib.hid hk
      clear hk
      go_wp2_with fail
      all_goals
        go_meet
        case rel => simp_all [P.heard, HK.out]
    · have hk' : (p.msg.kind == 2) = false := by simp [hk]
      have HK := Lib.hid hk
      clear hk
      go_wp2_with fail
      all_goals
        go_meet
        case rel => simp_all [P.heard, HK.out]
  case rest =>
    subst hcut
    have g2 : Grow w1 w2 := (Grow.refl _).drew.trans g2
    have h := g2.fit h
    have hr := g2.at hr
    have g := g1.trans g2
    clear g1 g2
    have HQ : Hid (P.hear r p = hearOf r (P.heard p) (P.news p)) := Lib.hid rfl
    have hqm : (P.heard p).msg.wf := hm
    have hqt : -2147483648 ≤ (P.heard p).msgTimes.hello ∧ (P.heard p).msgTimes.hello ≤ 2147483648 := hth
    have hqp : -2147483648 ≤ (P.heard p).portTimes.hello ∧ (P.heard p).portTimes.hello ≤ 2147483648 := hp.hello
    have hqi : (P.heard p).rcvdInfo = P.news p := rfl
    obtain ⟨n, hN⟩ : ∃ n, P.news p = n := ⟨_, rfl⟩
    rw [hN] at hqi HQ
    generalize P.heard p = q at hqm hqt hqp hqi HQ ⊢
    have HN := Lib.hid hN
    clear hN hth hm hp
    have hn : n = 1 ∨ n = 2 ∨ n = 3 ∨ n = 4 ∨ (n ≠ 1 ∧ n ≠ 2 ∧ n ≠ 3 ∧ n ≠ 4) := by omega
    rcases hn with rfl | rfl | rfl | rfl | hn
    · go_wp2_with fail
      refine (superior_calls _ _ _ _ h ?_ ?_).mono ?_
      · exact hqm
      · exact hqt
      rintro e w' ⟨rfl, w3, g3, rfl⟩
      have h := g3.fit h
      go_wp2
      go_end0
      exact ⟨rfl, w3, g.trans g3, by rw [HQ.out]; simp [hearOf]⟩
    · go_wp2_with fail
      refine (propose_calls _ _ _ _ h ?_).mono ?_
      · exact hqm
      rintro e w' ⟨rfl, w3, g3, rfl⟩
      have h := g3.fit h
      go_wp2_with fail
      refine (flags_calls _ _ _ _ h ?_).mono ?_
      · exact hqm
      rintro e w' ⟨rfl, w4, g4, rfl⟩
      have h := g4.fit h
      go_wp2_with fail
      refine (lives_calls _ _ _ _ h ?_).mono ?_
      · exact hqp
      rintro e w' ⟨rfl, w5, g5, rfl⟩
      have h := g5.fit h
      go_wp2
      go_end0
      exact ⟨rfl, w5, g.trans (g3.trans (g4.trans g5)), by rw [HQ.out]; simp [hearOf]⟩
    · go_wp2_with fail
      refine (flagged_calls q.msg hqm 2 (by decide) _).mono ?_
      rintro e w' ⟨rfl, h1⟩
      obtain ⟨w3, g3, rfl⟩ := h1.unput h
      have h := g3.fit h
      have e16 : P.flagged q.msg ([1, 2, 16, 32, 64, 128].getD 2 0) = P.flagged q.msg 16 := rfl
      cases hf : P.flagged q.msg 16
      all_goals
        go_wp2
        go_end0
        exact ⟨rfl, w3, g.trans g3, by rw [HQ.out]; simp [hearOf, hf, hqi]⟩
    · go_wp2_with fail
      refine (agreed_calls _ _ _ _ _ r _ h ?_ hb hr).mono ?_
      · exact hqm
      rintro e w' ⟨rfl, w3, g3, rfl⟩
      have h := g3.fit h
      go_wp2
      go_end0
      exact ⟨rfl, w3, g.trans g3, by rw [HQ.out]; simp [hearOf]⟩
    · obtain ⟨n1, n2, n3, n4⟩ := hn
      have e1 : (n == 1) = false := by simp [n1]
      have e2 : (n == 2) = false := by simp [n2]
      have e3 : (n == 3) = false := by simp [n3]
      have e4 : (n == 4) = false := by simp [n4]
      have N1 := Lib.hid n1
      have N2 := Lib.hid n2
      have N3 := Lib.hid n3
      have N4 := Lib.hid n4
      clear n1 n2 n3 n4
      go_wp2
      go_end0
      exact ⟨rfl, w2, g, by rw [HQ.out]; simp [hearOf, N1.out, N2.out, N3.out, N4.out, hqi]⟩
end Go.Proofs.Ytogekloaijidhaa
