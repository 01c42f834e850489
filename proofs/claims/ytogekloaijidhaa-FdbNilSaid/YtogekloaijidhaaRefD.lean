/- WALKS: the reference's hear: what a port makes of a message. -/
import Derived.Test.YtogekloaijidhaaRefC
set_option maxRecDepth 100000
namespace Go.Proofs.Ytogekloaijidhaa
open Go Go.RowKit

set_option maxHeartbeats 8000000 in
theorem hear15_calls (b : Brg) (p : Prt) (hp : p.wf) (hr : p.wfR) (w : World) :
    Calls Try.prog 64 #[.agg b.enc.toArray, .agg p.enc.toArray] w fun e w' => e = .returned (.agg (P.hear b.rstp p).enc.toArray) ∧ Grow w w' := by
  have hm := hp.msg
  have hth := times_hello p.msg hm
  have HP := Lib.hid hp
  have HR := Lib.hid hr
  clear hp hr
  go_enter Try.func64, Try.ntmps64
  go_upto_region 1 with (fail)
  obtain ⟨w1, g1, f1, f2, f3, new1, new2, new3, ⟨ne12, ne21⟩, ⟨ne13, ne31⟩, ⟨ne23, ne32⟩, e⟩ := box3 w b.enc p.enc Prt.zero.enc 34 50 50; refine wp_in e ?_; clear e; simp only [Brg.length_enc, Prt.length_enc, Prt.length_enc] at f1 f2 f3; generalize w.heap.size + 2 = n3 at *; generalize w.heap.size + 1 = n2 at *; generalize w.heap.size = n1 at *
  go_wp2_with fail
  refine (news15_calls _ hm HP.out.mport HP.out.vport HR.out _).mono ?_
  rintro e X ⟨rfl, h5⟩
  (obtain ⟨w1, gx, rfl⟩ := h5.unput3 f1 f2 f3 ne12 ne13 ne23; clear h5; have f1 := gx.fit f1; have f2 := gx.fit f2; have f3 := gx.fit f3; have g1 := g1.trans gx; clear gx)
  go_wp2_with fail
  refine (seconds15_calls _ hm _).mono ?_
  rintro e X ⟨rfl, h5⟩
  (obtain ⟨w1, gx, rfl⟩ := h5.unput3 f1 f2 f3 ne12 ne13 ne23; clear h5; have f1 := gx.fit f1; have f2 := gx.fit f2; have f3 := gx.fit f3; have g1 := g1.trans gx; clear gx)
  go_upto_if 20 with (fail)
  go_cut [17] (fun _ w' => w' = put (put (put w1 n1 0 b.enc) n2 0 (P.heard p).enc) n3 0 Prt.zero.enc)
  case first =>
    by_cases hk : p.msg.kind = 2
    · have hk' : (p.msg.kind == 2) = true := by simp [hk]
      have HK := Lib.hid hk
      clear hk
      go_wp2_with fail
      go_meet
      case rel => simp [P.heard, HK.out]
    · have hk' : (p.msg.kind == 2) = false := by simp [hk]
      have HK := Lib.hid hk
      clear hk
      go_wp2_with fail
      go_meet
      case rel => simp [P.heard, HK.out]
  case rest =>
    subst hcut
    have HQ : Hid (P.hear b.rstp p = hearOf b.rstp (P.heard p) (P.news p)) := Lib.hid rfl
    have hqm : (P.heard p).msg.wf := hm
    have hqt : -2147483648 ≤ (P.heard p).msgTimes.hello ∧ (P.heard p).msgTimes.hello ≤ 2147483648 := hth
    have hqp : -2147483648 ≤ (P.heard p).portTimes.hello ∧ (P.heard p).portTimes.hello ≤ 2147483648 := HP.out.hello
    have hqi : (P.heard p).rcvdInfo = P.news p := rfl
    obtain ⟨n, hN⟩ : ∃ n, P.news p = n := ⟨_, rfl⟩
    rw [hN] at hqi HQ
    generalize P.heard p = q at hqm hqt hqp hqi HQ ⊢
    clear hN hth hm HP HR
    have HT := Lib.hid hqt
    have HQP := Lib.hid hqp
    clear hqt hqp
    have hn : n = 1 ∨ n = 2 ∨ n = 3 ∨ n = 4 ∨ (n ≠ 1 ∧ n ≠ 2 ∧ n ≠ 3 ∧ n ≠ 4) := by omega
    rcases hn with rfl | rfl | rfl | rfl | hn
    · go_wp2_with fail
      refine (told15_calls _ ?_ _ _).mono ?_
      · exact hqm
      rintro e X ⟨rfl, h5⟩
      (obtain ⟨w1, gx, rfl⟩ := h5.unput3 f1 f2 f3 ne12 ne13 ne23; clear h5; have f1 := gx.fit f1; have f2 := gx.fit f2; have f3 := gx.fit f3; have g1 := g1.trans gx; clear gx)
      generalize hs : P.told true _ = s
      have hst : s.msgTimes = q.msgTimes := by rw [← hs]; rfl
      have HS := Lib.hid hs
      have HST := Lib.hid hst
      clear hs hst
      go_wp2_with fail
      refine (bos13_calls _ _ _).mono ?_
      rintro e X ⟨rfl, h5⟩
      (obtain ⟨w1, gx, rfl⟩ := h5.unput3 f1 f2 f3 ne12 ne13 ne23; clear h5; have f1 := gx.fit f1; have f2 := gx.fit f2; have f3 := gx.fit f3; have g1 := g1.trans gx; clear gx)
      generalize hbb : P.bos s 3 = bb
      have HB := Lib.hid hbb
      clear hbb
      cases ha : s.agree
      all_goals cases bb
      all_goals
        go_wp2_with fail
        refine (lives13_calls _ ?_ _).mono ?_
        · show -2147483648 ≤ s.msgTimes.hello ∧ s.msgTimes.hello ≤ 2147483648
          rw [HST.out]; exact HT.out
        rintro e X ⟨rfl, h5⟩
        (obtain ⟨w1, gx, rfl⟩ := h5.unput3 f1 f2 f3 ne12 ne13 ne23; clear h5; have f1 := gx.fit f1; have f2 := gx.fit f2; have f3 := gx.fit f3; have g1 := g1.trans gx; clear gx)
        go_wp2
        refine bodyPost_ret (v := .agg (P.hear b.rstp p).enc.toArray) ?_ rfl ⟨rfl, Grow.new (Grow.new (Grow.new g1 new1) new2) new3⟩
        simp [results, Try.results64, go_sem, f3, ne31, ne32]
        rw [HQ.out]
        have hs' : P.flags (P.propose { q with agreed := false, proposing := false }) = s := by rw [← HS.out]; simp [P.told, hqi]
        simp [hearOf, P.superior, hs', ha, HB.out]
    · go_wp2_with fail
      refine (told15_calls _ ?_ _ _).mono ?_
      · exact hqm
      rintro e X ⟨rfl, h5⟩
      (obtain ⟨w1, gx, rfl⟩ := h5.unput3 f1 f2 f3 ne12 ne13 ne23; clear h5; have f1 := gx.fit f1; have f2 := gx.fit f2; have f3 := gx.fit f3; have g1 := g1.trans gx; clear gx)
      go_wp2_with fail
      refine (lives13_calls _ ?_ _).mono ?_
      · exact HQP.out
      rintro e X ⟨rfl, h5⟩
      (obtain ⟨w1, gx, rfl⟩ := h5.unput3 f1 f2 f3 ne12 ne13 ne23; clear h5; have f1 := gx.fit f1; have f2 := gx.fit f2; have f3 := gx.fit f3; have g1 := g1.trans gx; clear gx)
      go_wp2
      refine bodyPost_ret (v := .agg (P.hear b.rstp p).enc.toArray) ?_ rfl ⟨rfl, Grow.new (Grow.new (Grow.new g1 new1) new2) new3⟩
      simp [results, Try.results64, go_sem, f3, ne31, ne32]
      rw [HQ.out]
      simp [hearOf, P.told]
    · by_cases hk : q.msg.kind = 3
      · go_wp2_with fail
        refine (bit15_calls _ hqm _ ⟨by omega, by omega⟩ _).mono ?_
        rintro e X ⟨rfl, h5⟩
        (obtain ⟨w1, gx, rfl⟩ := h5.unput3 f1 f2 f3 ne12 ne13 ne23; clear h5; have f1 := gx.fit f1; have f2 := gx.fit f2; have f3 := gx.fit f3; have g1 := g1.trans gx; clear gx)
        cases hb : P.bit q.msg.flags 16
        all_goals
          go_wp2
          refine bodyPost_ret (v := .agg (P.hear b.rstp p).enc.toArray) ?_ rfl ⟨rfl, Grow.new (Grow.new (Grow.new g1 new1) new2) new3⟩
          simp [results, Try.results64, go_sem, f3, ne31, ne32]
          rw [HQ.out]
          simp [hearOf, P.flagged, hk, hb, hqi]
      · go_wp2
        refine bodyPost_ret (v := .agg (P.hear b.rstp p).enc.toArray) ?_ rfl ⟨rfl, Grow.new (Grow.new (Grow.new g1 new1) new2) new3⟩
        simp [results, Try.results64, go_sem, f3, ne31, ne32]
        rw [HQ.out]
        simp [hearOf, P.flagged, hk, hqi]
    · cases hrs : b.rstp
      · go_wp2_with fail
        refine (told15_calls _ ?_ _ _).mono ?_
        · exact hqm
        rintro e X ⟨rfl, h5⟩
        (obtain ⟨w1, gx, rfl⟩ := h5.unput3 f1 f2 f3 ne12 ne13 ne23; clear h5; have f1 := gx.fit f1; have f2 := gx.fit f2; have f3 := gx.fit f3; have g1 := g1.trans gx; clear gx)
        go_wp2
        refine bodyPost_ret (v := .agg (P.hear b.rstp p).enc.toArray) ?_ rfl ⟨rfl, Grow.new (Grow.new (Grow.new g1 new1) new2) new3⟩
        simp [results, Try.results64, go_sem, f3, ne31, ne32]
        rw [HQ.out]
        simp [hearOf, P.told, P.agreed, P.flagged, hqi, hrs]
      · cases hpp : q.pointToPoint
        · go_wp2_with fail
          refine (told15_calls _ ?_ _ _).mono ?_
          · exact hqm
          rintro e X ⟨rfl, h5⟩
          (obtain ⟨w1, gx, rfl⟩ := h5.unput3 f1 f2 f3 ne12 ne13 ne23; clear h5; have f1 := gx.fit f1; have f2 := gx.fit f2; have f3 := gx.fit f3; have g1 := g1.trans gx; clear gx)
          go_wp2
          refine bodyPost_ret (v := .agg (P.hear b.rstp p).enc.toArray) ?_ rfl ⟨rfl, Grow.new (Grow.new (Grow.new g1 new1) new2) new3⟩
          simp [results, Try.results64, go_sem, f3, ne31, ne32]
          rw [HQ.out]
          simp [hearOf, P.told, P.agreed, P.flagged, hqi, hrs, hpp]
        · by_cases hk : q.msg.kind = 3
          · go_wp2_with fail
            refine (bit15_calls _ hqm _ ⟨by omega, by omega⟩ _).mono ?_
            rintro e X ⟨rfl, h5⟩
            (obtain ⟨w1, gx, rfl⟩ := h5.unput3 f1 f2 f3 ne12 ne13 ne23; clear h5; have f1 := gx.fit f1; have f2 := gx.fit f2; have f3 := gx.fit f3; have g1 := g1.trans gx; clear gx)
            cases hb : P.bit q.msg.flags 64
            all_goals
              go_wp2_with fail
              refine (told15_calls _ ?_ _ _).mono ?_
              · exact hqm
              rintro e X ⟨rfl, h5⟩
              (obtain ⟨w1, gx, rfl⟩ := h5.unput3 f1 f2 f3 ne12 ne13 ne23; clear h5; have f1 := gx.fit f1; have f2 := gx.fit f2; have f3 := gx.fit f3; have g1 := g1.trans gx; clear gx)
              go_wp2
              refine bodyPost_ret (v := .agg (P.hear b.rstp p).enc.toArray) ?_ rfl ⟨rfl, Grow.new (Grow.new (Grow.new g1 new1) new2) new3⟩
              simp [results, Try.results64, go_sem, f3, ne31, ne32]
              rw [HQ.out]
              simp [hearOf, P.told, P.agreed, P.flagged, hqi, hrs, hpp, hk, hb]
          · go_wp2_with fail
            refine (told15_calls _ ?_ _ _).mono ?_
            · exact hqm
            rintro e X ⟨rfl, h5⟩
            (obtain ⟨w1, gx, rfl⟩ := h5.unput3 f1 f2 f3 ne12 ne13 ne23; clear h5; have f1 := gx.fit f1; have f2 := gx.fit f2; have f3 := gx.fit f3; have g1 := g1.trans gx; clear gx)
            go_wp2
            refine bodyPost_ret (v := .agg (P.hear b.rstp p).enc.toArray) ?_ rfl ⟨rfl, Grow.new (Grow.new (Grow.new g1 new1) new2) new3⟩
            simp [results, Try.results64, go_sem, f3, ne31, ne32]
            rw [HQ.out]
            simp [hearOf, P.told, P.agreed, P.flagged, hqi, hrs, hpp, hk]
    · obtain ⟨n1', n2', n3', n4'⟩ := hn
      have e1 : (n == 1) = false := by simp [n1']
      have e2 : (n == 2) = false := by simp [n2']
      have e3 : (n == 3) = false := by simp [n3']
      have e4 : (n == 4) = false := by simp [n4']
      have N1 := Lib.hid n1'
      have N2 := Lib.hid n2'
      have N3 := Lib.hid n3'
      have N4 := Lib.hid n4'
      clear n1' n2' n3' n4'
      go_wp2
      refine bodyPost_ret (v := .agg (P.hear b.rstp p).enc.toArray) ?_ rfl ⟨rfl, Grow.new (Grow.new (Grow.new g1 new1) new2) new3⟩
      simp [results, Try.results64, go_sem, f3, ne31, ne32]
      rw [HQ.out]
      simp [hearOf, N1.out, N2.out, N3.out, N4.out, hqi]
end Go.Proofs.Ytogekloaijidhaa
