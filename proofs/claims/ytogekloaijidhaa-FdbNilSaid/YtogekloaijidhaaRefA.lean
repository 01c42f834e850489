/- WALKS: the reference's functions on values: they answer as the program's do. -/
import Derived.Test.YtogekloaijidhaaInfoC
import Derived.IntWalk
set_option maxRecDepth 100000
namespace Go.Proofs.Ytogekloaijidhaa
open Go Go.RowKit

theorem ret_struct {a b : List Value} (h : a = b) : Value.agg a.toArray = Value.agg b.toArray := by rw [h]
theorem u16_quo (x : Int) (h0 : 0 ≤ x) (h1 : x ≤ 65535) : IntKind.u16.wrap (x.tdiv 256) = x / 256 := by
  rw [Int.tdiv_eq_ediv_of_nonneg h0]
  exact IntWalk.u16_in _ (by omega)
set_option maxHeartbeats 1000000 in
theorem seconds15_calls (m : Bpdu) (h : m.wf) (w : World) :
    Calls Try.prog 33 #[.agg m.enc.toArray] w fun e w' => e = .returned (.agg (P.timesOf m).enc.toArray) ∧ Grow w w' := by
  obtain ⟨_, ⟨a0, a1⟩, ⟨m0, m1⟩, ⟨h0, h1⟩, ⟨d0, d1⟩⟩ := h
  have qa := u16_quo m.age a0 a1
  have qm := u16_quo m.max m0 m1
  have qh := u16_quo m.hello h0 h1
  have qd := u16_quo m.delay d0 d1
  by_cases hl : m.hello / 256 < 1
  all_goals by_cases hg : 0 < m.age % 256
  all_goals
    go_enter Try.func33, Try.ntmps33
    go_wp2
    refine bodyPost_ret (v := .agg (P.timesOf m).enc.toArray) ?_ rfl ⟨rfl, (((Grow.refl _).alloc _).alloc _).alloc _⟩
    first | (simp [results, Try.results33, go_sem, P.timesOf, Tms.enc, hl]; omega) | (simp [results, Try.results33, go_sem, P.timesOf, Tms.enc]; omega)
theorem role07_calls (f : Int) (h0 : 0 ≤ f) (h1 : f ≤ 255) (w : World) : Calls Try.prog 34 #[.int .u8 f] w fun e w' => e = .returned (.int .i64 (P.roleF f)) ∧ w' = w := by
  have h4 : f / 4 % 4 = 0 ∨ f / 4 % 4 = 1 ∨ f / 4 % 4 = 2 ∨ f / 4 % 4 = 3 := by omega
  go_enter Try.func34, Try.ntmps34
  go_wp2
  all_goals go_ret
  all_goals refine ⟨?_, rfl⟩
  all_goals simp_all [P.roleF]
theorem less_eq (a b : Vec) : P.better a b = (if a.root ≠ b.root then decide (a.root < b.root) else if a.cost ≠ b.cost then decide (a.cost < b.cost) else if a.bridge ≠ b.bridge then decide (a.bridge < b.bridge) else decide (a.port < b.port)) := by
  unfold P.better P.compare P.cmp
  by_cases h1 : a.root = b.root
  · by_cases h2 : a.cost = b.cost
    · by_cases h3 : a.bridge = b.bridge
      · by_cases h4 : a.port < b.port
        · simp [P.orI, h1, h2, h3, h4]
        · by_cases h5 : b.port < a.port <;> simp [P.orI, h1, h2, h3, h4, h5]
      · by_cases h4 : a.bridge < b.bridge
        · simp [P.orI, h1, h2, h3, h4]
        · have h5 : b.bridge < a.bridge := by omega
          simp [P.orI, h1, h2, h3, h4, h5]
    · by_cases h4 : a.cost < b.cost
      · simp [P.orI, h1, h2, h4]
      · have h5 : b.cost < a.cost := by omega
        simp [P.orI, h1, h2, h4, h5]
  · by_cases h4 : a.root < b.root
    · simp [P.orI, h1, h4]
    · have h5 : b.root < a.root := by omega
      simp [P.orI, h1, h4, h5]
set_option maxHeartbeats 1000000 in
theorem less08_calls (a b : Vec) (w : World) : Calls Try.prog 35 #[.agg a.enc.toArray, .agg b.enc.toArray] w fun e w' => e = .returned (.bool (P.better a b)) ∧ Grow w w' := by
  rw [less_eq]
  go_enter Try.func35, Try.ntmps35
  go_wp2
  all_goals go_ret
  all_goals refine ⟨?_, ((Grow.refl _).alloc _).alloc _⟩
  all_goals simp_all
theorem u64_quo (x : Int) (h0 : 0 ≤ x) (h1 : x ≤ 18446744073709551615) : IntKind.u64.wrap (x.tdiv 256) = x / 256 := by
  rw [Int.tdiv_eq_ediv_of_nonneg h0, IntKind.wrap_u64]
  omega
theorem u64_rem (x : Int) (h0 : 0 ≤ x) : x.tmod 256 = x % 256 := Int.tmod_eq_emod_of_nonneg h0
set_option maxHeartbeats 2000000 in
theorem bytes05_calls (n : Int) (h0 : 0 ≤ n) (h1 : n ≤ 18446744073709551615) (w : World) : Calls Try.prog 65 #[.int .u64 n] w fun e w' => e = .returned (.agg (P.mac n).enc.toArray) ∧ Grow w w' := by
  have q1 := u64_quo n h0 h1
  have q2 := u64_quo (n / 256) (by omega) (by omega)
  have q3 := u64_quo (n / 256 / 256) (by omega) (by omega)
  have q4 := u64_quo (n / 256 / 256 / 256) (by omega) (by omega)
  have q5 := u64_quo (n / 256 / 256 / 256 / 256) (by omega) (by omega)
  have q6 := u64_quo (n / 256 / 256 / 256 / 256 / 256) (by omega) (by omega)
  have r1 := u64_rem n h0
  have r2 := u64_rem (n / 256) (by omega)
  have r3 := u64_rem (n / 256 / 256) (by omega)
  have r4 := u64_rem (n / 256 / 256 / 256) (by omega)
  have r5 := u64_rem (n / 256 / 256 / 256 / 256) (by omega)
  have r6 := u64_rem (n / 256 / 256 / 256 / 256 / 256) (by omega)
  clear h0 h1
  go_enter Try.func65, Try.ntmps65
  go_wp2_with fail
  refine wp_loop_rounds 7 ?_
  iterate 7 (rw [rounds_succ]; go_wp2)
  refine bodyPost_ret (v := .agg (P.mac n).enc.toArray) ?_ rfl ⟨rfl, ((Grow.refl _).alloc _).alloc _⟩
  simp [results, Try.results65, go_sem, P.mac, Mac.enc]
  omega
theorem bit15_calls (m : Bpdu) (h : m.wf) (k : Int) (hk : 0 < k ∧ k ≤ 255) (w : World) : Calls Try.prog 78 #[.agg m.enc.toArray, .int .u8 k] w fun e w' => e = .returned (.bool (P.bit m.flags k)) ∧ Grow w w' := by
  have hf := h.flags
  have hd : 0 ≤ m.flags / k := Int.ediv_nonneg hf.1 (by omega)
  have hd2 : m.flags / k ≤ 255 := Int.le_trans (Int.ediv_le_self _ hf.1) hf.2
  have q : IntKind.u8.wrap (m.flags.tdiv k) = m.flags / k := by
    rw [Int.tdiv_eq_ediv_of_nonneg hf.1]
    exact IntWalk.u8_in _ ⟨hd, hd2⟩
  have r : (m.flags / k).tmod 2 = m.flags / k % 2 := Int.tmod_eq_emod_of_nonneg hd
  have hk0 : ¬ k = 0 := by omega
  go_enter Try.func78, Try.ntmps78
  go_wp2
  go_ret
  refine ⟨?_, (Grow.refl _).alloc _⟩
  congr 2
set_option maxHeartbeats 1000000 in
@[go_sem ↓] theorem Mac.eq6_run (a b : Mac) (w : World) : (Op.equalIn 10000 56 (.agg a.enc.toArray) (.agg b.enc.toArray)).run Try.prog w = .ok (decide (a = b)) w := by
  rw [show (10000 : Nat) = 9999 + 1 from rfl]
  unfold Op.equalIn
  go_simp
  rw [show List.range' 0 6 = [0, 1, 2, 3, 4, 5] from rfl]
  simp only [List.forIn_cons, List.forIn_nil]
  go_simp
  simp only [ite_ok]
  congr 1
  cases a
  cases b
  rw [Bool.eq_iff_iff]
  simp
set_option maxHeartbeats 1000000 in
theorem from08_calls (a b : Vec) (ha : 0 ≤ a.port ∧ a.port ≤ 65535) (hb : 0 ≤ b.port ∧ b.port ≤ 65535) (hab : 0 ≤ a.bridge ∧ a.bridge ≤ 18446744073709551615) (hbb : 0 ≤ b.bridge ∧ b.bridge ≤ 18446744073709551615) (w : World) : Calls Try.prog 36 #[.agg a.enc.toArray, .agg b.enc.toArray] w fun e w' => e = .returned (.bool (P.from a b)) ∧ Grow w w' := by
  have ra : a.port.tmod 4096 = a.port % 4096 := Int.tmod_eq_emod_of_nonneg ha.1
  have rb : b.port.tmod 4096 = b.port % 4096 := Int.tmod_eq_emod_of_nonneg hb.1
  have HA := Lib.hid hab
  have HB := Lib.hid hbb
  clear hab hbb
  go_enter Try.func36, Try.ntmps36
  go_wp2_with fail
  have hW : Grow w ((w.alloc (.cells a.enc.toArray 30)).alloc (.cells b.enc.toArray 30)) := ((Grow.refl _).alloc _).alloc _
  by_cases he : P.mac a.bridge = P.mac b.bridge
  all_goals
    first | (have hd : decide (P.mac a.bridge = P.mac b.bridge) = true := decide_eq_true he) | (have hd : decide (P.mac a.bridge = P.mac b.bridge) = false := decide_eq_false he)
    have HE := Lib.hid he
    clear he
    refine wp_region_ord (Ord.rds [0, 1, 3, 4] (.alt 2 (.alt 5 (Ord.rds [6, 7, 8, 9, 10, 11, 12, 13, 14, 15, 16] .done) .stop) .stop)) (by kernel_rfl) (by kernel_rfl) ?_
    repeat (first | (refine wpM_rdy rfl ?_ (fun K hK => ?_); exact wanted_plain rfl; go_simp; refine hK _ ?_; clear hK K) | (refine wpM_rdy rfl ?_ (fun K hK => ?_); exact wanted_yes rfl rfl rfl rfl; go_simp; refine hK _ ?_; clear hK K) | (refine wpM_rdn rfl ?_ (fun K hK => ?_); exact wanted_no rfl rfl rfl rfl; go_simp; refine hK _ ?_; clear hK K) | (refine wpM_rdn rfl ?_ (fun K hK => ?_); exact wanted_undef rfl rfl rfl rfl; go_simp; refine hK _ ?_; clear hK K))
    refine wpM_efy rfl ?_ (fun K hK _ => ?_) ((Grow.refl _).drew) wpM_stop; (first | exact wanted_plain rfl | exact wanted_yes rfl rfl rfl rfl)
    go_simp
    refine (bytes05_calls _ HA.out.1 HA.out.2 _).mono ?_
    rintro e w3 ⟨rfl, h3⟩
    have g3 := (Grow.refl _).drew.trans h3
    refine hK _ _ ⟨g3, ?_⟩; clear hK K
    refine wpM_efy rfl ?_ (fun K hK _ => ?_) (g3) wpM_stop; (first | exact wanted_plain rfl | exact wanted_yes rfl rfl rfl rfl)
    go_simp
    refine (bytes05_calls _ HB.out.1 HB.out.2 _).mono ?_
    rintro e w4 ⟨rfl, h4⟩
    have g4 := g3.trans h4
    refine hK _ _ ⟨g4, ?_⟩; clear hK K
    repeat (first | (refine wpM_rdy rfl ?_ (fun K hK => ?_); exact wanted_plain rfl; go_simp; refine hK _ ?_; clear hK K) | (refine wpM_rdy rfl ?_ (fun K hK => ?_); exact wanted_yes rfl rfl rfl rfl; go_simp; refine hK _ ?_; clear hK K) | (refine wpM_rdn rfl ?_ (fun K hK => ?_); exact wanted_no rfl rfl rfl rfl; go_simp; refine hK _ ?_; clear hK K) | (refine wpM_rdn rfl ?_ (fun K hK => ?_); exact wanted_undef rfl rfl rfl rfl; go_simp; refine hK _ ?_; clear hK K))
    refine wpM_done ?_
    go_wp2
    go_ret
    refine ⟨?_, hW.trans g4⟩
    simp [P.from, HE.out, P.num]
    try rfl
end Go.Proofs.Ytogekloaijidhaa
