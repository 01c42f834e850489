/- WALKS: the program's functions on values, layers 2 to 8, more. -/
import Derived.Test.YtogekloaijidhaaInfoA
set_option maxRecDepth 100000
namespace Go.Proofs.Ytogekloaijidhaa
open Go Go.RowKit

theorem fin_bit : ∀ n : Fin 256, ∀ k : Fin 6, (bits .and .u8 (n.val : Int) ([1, 2, 16, 32, 64, 128].getD k.val 0) != 0) = decide ((n.val : Int) / ([1, 2, 16, 32, 64, 128].getD k.val 0) % 2 = 1) := by decide +kernel
theorem bit_and (f : Int) (h0 : 0 ≤ f) (h1 : f ≤ 255) (i : Nat) (hi : i < 6) : (bits .and .u8 f ([1, 2, 16, 32, 64, 128].getD i 0) != 0) = P.bit f ([1, 2, 16, 32, 64, 128].getD i 0) := by
  have := fin_bit ⟨f.toNat, by omega⟩ ⟨i, hi⟩
  rw [show ((⟨f.toNat, by omega⟩ : Fin 256).val : Int) = f from Int.toNat_of_nonneg h0] at this
  exact this
theorem fin_role : ∀ n : Fin 256, bits .and .u8 (n.val : Int) 12 / 4 = (n.val : Int) / 4 % 4 := by decide +kernel
theorem role_and (f : Int) (h0 : 0 ≤ f) (h1 : f ≤ 255) : bits .and .u8 f 12 / 4 = f / 4 % 4 := by
  have := fin_role ⟨f.toNat, by omega⟩
  rwa [show ((⟨f.toNat, by omega⟩ : Fin 256).val : Int) = f from Int.toNat_of_nonneg h0] at this
theorem num_and (n : Int) (h0 : 0 ≤ n) (h1 : n ≤ 65535) : bits .and .u16 n 4095 = n % 4096 := by
  obtain ⟨k, rfl⟩ := Int.eq_ofNat_of_zero_le h0
  rw [show (4095 : Int) = ((4095 : Nat) : Int) from rfl, u16_and_nat k 4095 (by omega) (by omega), show 4095 = 2 ^ 12 - 1 from rfl, Nat.and_two_pow_sub_one_eq_mod]
  omega

set_option maxHeartbeats 1000000 in
theorem of_calls (n : Int) (w : World) : Calls Try.prog 107 #[.int .u64 n] w fun e w' => e = .returned (.agg (P.mac n).enc.toArray) ∧ Grow w w' := by
  go_enter Try.func107, Try.ntmps107
  go_wp2_with fail
  refine wp_loop_rounds 7 ?_
  iterate 7 (rw [rounds_succ]; go_wp2)
  refine bodyPost_ret (v := .agg (P.mac n).enc.toArray) ?_ rfl ⟨rfl, ((Grow.refl _).alloc _).alloc _⟩
  simp [results, Try.results107, go_sem, P.mac, Mac.enc]
set_option maxHeartbeats 400000 in
theorem mac_calls (n : Int) (w : World) : Calls Try.prog 101 #[.int .u64 n] w fun e w' => e = .returned (.agg (P.mac n).enc.toArray) ∧ Grow w w' := by
  go_enter Try.func101, Try.ntmps101
  go_wp2_with fail
  rw [Mac.zero_lit]
  refine (of_calls n _).mono ?_
  rintro e w' ⟨rfl, h⟩
  obtain ⟨w1, hg, hf, hs, rfl⟩ := h.unalloc
  rw [Mac.length_enc] at hf
  go_wp2
  refine bodyPost_ret (v := .agg (P.mac n).enc.toArray) ?_ rfl ⟨rfl, hg.put_new (Nat.le_refl _)⟩
  simp [results, Try.results101, go_sem, hf]
theorem portNumber_calls (n : Int) (h0 : 0 ≤ n) (h1 : n ≤ 65535) (w : World) : Calls Try.prog 102 #[.int .u16 n] w fun e w' => e = .returned (.int .i64 (P.num n)) ∧ w' = w := by
  go_enter Try.func102, Try.ntmps102
  have hb := num_and n h0 h1
  go_wp2
  go_ret
  exact ⟨by simp [P.num], rfl⟩
theorem role_calls (f : Int) (h0 : 0 ≤ f) (h1 : f ≤ 255) (w : World) : Calls Try.prog 90 #[.int .u8 f] w fun e w' => e = .returned (.int .i64 (P.roleF f)) ∧ w' = w := by
  have hb := role_and f h0 h1
  have h4 : f / 4 % 4 = 0 ∨ f / 4 % 4 = 1 ∨ f / 4 % 4 = 2 ∨ f / 4 % 4 = 3 := by omega
  rcases h4 with h | h | h | h <;> rw [h] at hb
  · have hi : ∀ w, (Instr.index 132 (.agg #[.int .i64 0, .int .i64 3, .int .i64 1, .int .i64 2]) (.int .u8 0)).run Try.prog w = .ok (.int .i64 0) w := fun _ => by kernel_rfl
    go_enter Try.func90, Try.ntmps90
    go_wp2
    go_ret
    exact ⟨by simp [P.roleF, h], rfl⟩
  · have hi : ∀ w, (Instr.index 132 (.agg #[.int .i64 0, .int .i64 3, .int .i64 1, .int .i64 2]) (.int .u8 1)).run Try.prog w = .ok (.int .i64 3) w := fun _ => by kernel_rfl
    go_enter Try.func90, Try.ntmps90
    go_wp2
    go_ret
    exact ⟨by simp [P.roleF, h], rfl⟩
  · have hi : ∀ w, (Instr.index 132 (.agg #[.int .i64 0, .int .i64 3, .int .i64 1, .int .i64 2]) (.int .u8 2)).run Try.prog w = .ok (.int .i64 1) w := fun _ => by kernel_rfl
    go_enter Try.func90, Try.ntmps90
    go_wp2
    go_ret
    exact ⟨by simp [P.roleF, h], rfl⟩
  · have hi : ∀ w, (Instr.index 132 (.agg #[.int .i64 0, .int .i64 3, .int .i64 1, .int .i64 2]) (.int .u8 3)).run Try.prog w = .ok (.int .i64 2) w := fun _ => by kernel_rfl
    go_enter Try.func90, Try.ntmps90
    go_wp2
    go_ret
    exact ⟨by simp [P.roleF, h], rfl⟩
/-- the fields of a message are numbers of their kinds -/
structure Bpdu.wf (m : Bpdu) : Prop where
  flags : 0 ≤ m.flags ∧ m.flags ≤ 255
  age : 0 ≤ m.age ∧ m.age ≤ 65535
  max : 0 ≤ m.max ∧ m.max ≤ 65535
  hello : 0 ≤ m.hello ∧ m.hello ≤ 65535
  delay : 0 ≤ m.delay ∧ m.delay ≤ 65535
set_option maxHeartbeats 400000 in
theorem timesOf_calls (m : Bpdu) (h : m.wf) (w : World) :
    Calls Try.prog 54 #[.agg m.enc.toArray] w fun e w' => e = .returned (.agg (P.timesOf m).enc.toArray) ∧ Grow w w' := by
  obtain ⟨_, ha, hm, hh, hd⟩ := h
  by_cases hl : m.hello / 256 < 1
  all_goals
    go_enter Try.func54, Try.ntmps54
    go_wp2
    refine bodyPost_ret (v := .agg (P.timesOf m).enc.toArray) ?_ rfl ⟨rfl, ((Grow.refl _).alloc _).alloc _⟩
    first | (simp [results, Try.results54, go_sem, P.timesOf, Tms.enc, hl]; done) | (simp [results, Try.results54, go_sem, P.timesOf, Tms.enc]; omega)
theorem livesT_calls (t : Tms) (h : Int) (hh : -2147483648 ≤ h ∧ h ≤ 2147483648) (w : World) : Calls Try.prog 74 #[.agg t.enc.toArray, .int .i64 h] w fun e w' => e = .returned (.int .i64 (P.livesT t h)) ∧ Grow w w' := by
  go_enter Try.func74, Try.ntmps74
  go_wp2
  all_goals go_ret
  all_goals refine ⟨?_, (Grow.refl _).alloc _⟩
  · have h1 : t.max ≤ t.age := by assumption
    simp [P.livesT, h1]
  · have h1 : ¬ t.max ≤ t.age := by omega
    simp [P.livesT, h1]
theorem flagged_calls (m : Bpdu) (h : m.wf) (i : Nat) (hi : i < 6) (w : World) : Calls Try.prog 59 #[.agg m.enc.toArray, .int .u8 ([1, 2, 16, 32, 64, 128].getD i 0)] w fun e w' => e = .returned (.bool (P.flagged m ([1, 2, 16, 32, 64, 128].getD i 0))) ∧ Grow w w' := by
  have hb := bit_and m.flags h.flags.1 h.flags.2 i hi
  generalize ([1, 2, 16, 32, 64, 128].getD i 0 : Int) = k at *
  have HB := Lib.hid hb; clear hb
  go_enter Try.func59, Try.ntmps59
  go_wp2
  all_goals go_ret
  all_goals refine ⟨?_, (Grow.refl _).alloc _⟩
  all_goals simp_all [P.flagged, HB.out]
theorem roleM_calls (m : Bpdu) (h : m.wf) (w : World) : Calls Try.prog 72 #[.agg m.enc.toArray] w fun e w' => e = .returned (.int .i64 (P.roleM m)) ∧ Grow w w' := by
  go_enter Try.func72, Try.ntmps72
  go_wp2_with (go_at_call 90; (with_reducible refine (role_calls _ h.flags.1 h.flags.2 _).mono ?_); rintro e w' ⟨rfl, rfl⟩)
  all_goals go_ret
  all_goals refine ⟨?_, (Grow.refl _).alloc _⟩
  all_goals simp_all [P.roleM]
end Go.Proofs.Ytogekloaijidhaa
