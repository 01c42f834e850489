/- WALKS: the reference's Same: of two bridges that are one but for where their ports lie. -/
import Derived.Test.YtogekloaijidhaaRefG
import Derived.Test.YtogekloaijidhaaEq
set_option maxRecDepth 100000
namespace Go.Proofs.Ytogekloaijidhaa
open Go Go.RowKit

def SameRel (w : World) (n1 n2 : Nat) (a b : Brg) (l : List Prt) (i : Value) (wr : World) : Prop :=
  ∃ (k : Nat) (w1 : World), k ≤ l.length ∧ i = .int .i64 k ∧ wr = put (put w1 n1 0 a.enc) n2 0 b.enc ∧ Grow w w1 ∧ Fit w1 n1 0 18 ∧ Fit w1 n2 0 18
set_option maxHeartbeats 4000000 in
theorem same08_some (a : Brg) (s : Sl) (l : List Prt) (w : World) (pa oa pb ob : Nat) (ea : a.ports.a = some ⟨pa, oa, none⟩) (eb : s.a = some ⟨pb, ob, none⟩) (ha : PortsIn w a.ports l) (hb : PortsIn w s l) (hlen : l.length ≤ 1000) :
    Calls Try.prog 12 #[.agg a.enc.toArray, .agg ({ a with ports := s } : Brg).enc.toArray] w fun e w' => e = .returned (.bool true) ∧ Grow w w' := by
  have hna : a.ports.n = l.length := ha.1
  have hnb : s.n = l.length := hb.1
  have HA := Lib.hid ha
  have HB := Lib.hid hb
  clear ha hb
  go_enter Try.func12, Try.ntmps12
  go_upto_region 1 with (fail)
  obtain ⟨w1, g1, f1, f2, new1, new2, ne12, ne21, e⟩ := box2 w a.enc ({ a with ports := s } : Brg).enc 34 34; refine wp_in e ?_; clear e; simp only [Brg.length_enc, Brg.length_enc] at f1 f2; generalize w.heap.size + 1 = n2 at *; generalize w.heap.size = n1 at *
  go_wp2_with fail
  go_loopw [5] (fun i wr => SameRel w n1 n2 a { a with ports := s } l i wr) (fun i _ => l.length - (intOf i).toNat)
  case atStart => exact ⟨0, w1, Nat.zero_le _, rfl, rfl, g1, f1, f2⟩
  case round =>
    obtain ⟨k, w3, hk, rfl, rfl, g3, f1, f2⟩ := hrel
    have hW := Grow.new (o := 0) (l := ({ a with ports := s } : Brg).enc) (Grow.new (o := 0) (l := a.enc) g3 new1) new2
    by_cases hlt : k < l.length
    · obtain ⟨p1, o1, e1, hx⟩ := (HA.out.grow hW).2 k hlt
      obtain ⟨p2, o2, e2, hy⟩ := (HB.out.grow hW).2 k hlt
      rw [ea] at e1
      cases e1
      rw [eb] at e2
      cases e2
      have hrel : SameRel w n1 n2 a { a with ports := s } l (.int .i64 ((k : Int) + 1)) ((put (put w3 n1 0 a.enc) n2 0 ({ a with ports := s } : Brg).enc).drew) := ⟨k + 1, w3.drew, by omega, by go_num, rfl, g3.drew, f1, f2⟩
      have HREL := Lib.hid hrel
      clear hrel
      go_wp2_with fail
      refine wp_region_ord (Ord.rds [0, 1, 2, 3, 4, 5, 6, 7, 8, 9, 10] .done) (by kernel_rfl) (by kernel_rfl) ?_
      repeat (first | (refine wpM_rdy rfl ?_ (fun K hK => ?_); exact wanted_plain rfl; go_simp; refine hK _ ?_; clear hK K) | (refine wpM_rdy rfl ?_ (fun K hK => ?_); exact wanted_yes rfl rfl rfl rfl; go_simp; refine hK _ ?_; clear hK K) | (refine wpM_rdn rfl ?_ (fun K hK => ?_); exact wanted_no rfl rfl rfl rfl; go_simp; refine hK _ ?_; clear hK K) | (refine wpM_rdn rfl ?_ (fun K hK => ?_); exact wanted_undef rfl rfl rfl rfl; go_simp; refine hK _ ?_; clear hK K))
      refine wpM_done ?_
      go_wp2
      go_roundw
      case rel => exact HREL.out
      case measure => simp [intOf]; omega
    · go_wp2
      go_ret
      exact ⟨rfl, hW⟩
set_option maxHeartbeats 4000000 in
theorem same08_none (a : Brg) (s : Sl) (w : World) (hna : a.ports.n = 0) (hnb : s.n = 0) :
    Calls Try.prog 12 #[.agg a.enc.toArray, .agg ({ a with ports := s } : Brg).enc.toArray] w fun e w' => e = .returned (.bool true) ∧ Grow w w' := by
  go_enter Try.func12, Try.ntmps12
  go_upto_region 1 with (fail)
  obtain ⟨w1, g1, f1, f2, new1, new2, ne12, ne21, e⟩ := box2 w a.enc ({ a with ports := s } : Brg).enc 34 34; refine wp_in e ?_; clear e; simp only [Brg.length_enc, Brg.length_enc] at f1 f2; generalize w.heap.size + 1 = n2 at *; generalize w.heap.size = n1 at *
  go_wp2_with fail
  refine wp_loop_rounds 1 ?_
  rw [rounds_succ]
  go_wp2
  go_ret
  exact ⟨rfl, Grow.new (Grow.new g1 new1) new2⟩
theorem same08_calls (a : Brg) (s : Sl) (l : List Prt) (w : World) (ha : PortsIn w a.ports l) (hb : PortsIn w s l) (hlen : l.length ≤ 1000) :
    Calls Try.prog 12 #[.agg a.enc.toArray, .agg ({ a with ports := s } : Brg).enc.toArray] w fun e w' => e = .returned (.bool true) ∧ Grow w w' := by
  cases l with
  | nil => exact same08_none a s w ha.1 hb.1
  | cons p l =>
    obtain ⟨pa, oa, ea, _⟩ := ha.2 0 (by simp)
    obtain ⟨pb, ob, eb, _⟩ := hb.2 0 (by simp)
    exact same08_some a s _ w pa oa pb ob ea eb ha hb hlen
end Go.Proofs.Ytogekloaijidhaa
