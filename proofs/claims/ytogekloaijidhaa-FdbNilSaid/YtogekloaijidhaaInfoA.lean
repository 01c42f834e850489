/- WALKS: the program's functions on values, layers 5 to 8. -/
import Derived.Test.YtogekloaijidhaaRows
import Derived.Test.YtogekloaijidhaaInfoSpec
set_option maxRecDepth 100000
namespace Go.Proofs.Ytogekloaijidhaa
open Go Go.RowKit

theorem isNaN_u64 (x : Int) (w : World) : Calls Try.prog 104 #[.int .u64 x] w fun e w' => e = .returned (.bool false) ∧ w' = w := by
  go_enter Try.func104, Try.ntmps104
  go_wp2
  go_ret
  simp
theorem isNaN_u32 (x : Int) (w : World) : Calls Try.prog 105 #[.int .u32 x] w fun e w' => e = .returned (.bool false) ∧ w' = w := by
  go_enter Try.func105, Try.ntmps105
  go_wp2
  go_ret
  simp
theorem isNaN_u16 (x : Int) (w : World) : Calls Try.prog 106 #[.int .u16 x] w fun e w' => e = .returned (.bool false) ∧ w' = w := by
  go_enter Try.func106, Try.ntmps106
  go_wp2
  go_ret
  simp
set_option maxHeartbeats 400000 in
theorem cmp_u64 (x y : Int) (w : World) : Calls Try.prog 98 #[.int .u64 x, .int .u64 y] w fun e w' => e = .returned (.int .i64 (P.cmp x y)) ∧ w' = w := by
  go_enter Try.func98, Try.ntmps98
  go_wp2_with (go_at_call 104; refine (isNaN_u64 _ _).mono ?_; rintro e w' ⟨rfl, rfl⟩)
  all_goals (go_ret; refine ⟨?_, rfl⟩; simp [P.cmp]; try omega)
set_option maxHeartbeats 400000 in
theorem cmp_u32 (x y : Int) (w : World) : Calls Try.prog 99 #[.int .u32 x, .int .u32 y] w fun e w' => e = .returned (.int .i64 (P.cmp x y)) ∧ w' = w := by
  go_enter Try.func99, Try.ntmps99
  go_wp2_with (go_at_call 105; refine (isNaN_u32 _ _).mono ?_; rintro e w' ⟨rfl, rfl⟩)
  all_goals (go_ret; refine ⟨?_, rfl⟩; simp [P.cmp]; try omega)
set_option maxHeartbeats 400000 in
theorem cmp_u16 (x y : Int) (w : World) : Calls Try.prog 100 #[.int .u16 x, .int .u16 y] w fun e w' => e = .returned (.int .i64 (P.cmp x y)) ∧ w' = w := by
  go_enter Try.func100, Try.ntmps100
  go_wp2_with (go_at_call 106; refine (isNaN_u16 _ _).mono ?_; rintro e w' ⟨rfl, rfl⟩)
  all_goals (go_ret; refine ⟨?_, rfl⟩; simp [P.cmp]; try omega)
set_option maxHeartbeats 400000 in
theorem or_calls (b c : Nat) (l : List Int) (w : World) (hl : l.length ≤ 100) (ha : At w b 0 (l.map (.int .i64))) :
    Calls Try.prog 97 #[.slice (some ⟨b, 0, none⟩) l.length c] w fun e w' => e = .returned (.int .i64 (P.orI l)) ∧ w' = w := by
  go_enter Try.func97, Try.ntmps97
  have hc : ∀ k (h : k < l.length), w.cell? ⟨b, k, none⟩ = some (.int .i64 l[k]) := fun k h => by
    have := ha.cell (k := k) (by simpa using h)
    simpa [List.getElem?_eq_getElem h] using this
  have HC := Lib.hid hc; clear hc ha
  go_wp2
  go_loop [8] (fun i => ∃ k : Nat, k ≤ l.length ∧ i = .int .i64 k ∧ P.orI l = P.orI (l.drop k)) (fun i => l.length - (intOf i).toNat)
  case atStart => exact ⟨0, Nat.zero_le _, rfl, by simp⟩
  case round =>
    obtain ⟨k, hk, rfl, ho⟩ := hrel
    have HO := Lib.hid ho; clear ho
    by_cases hlt : k < l.length
    · have hx := HC.out k hlt
      by_cases h0 : l[k] = 0
      · have hb : (l[k] != 0) = false := by simp [h0]
        go_wp2
        go_round
        case rel => exact ⟨k + 1, by omega, by go_num, by rw [HO.out, List.drop_eq_getElem_cons hlt]; simp [P.orI, h0]⟩
        case measure => simp [intOf]; omega
      · have hb : (l[k] != 0) = true := by simp [h0]
        go_wp2
        go_ret
        refine ⟨?_, rfl⟩
        rw [HO.out, List.drop_eq_getElem_cons hlt]; simp [P.orI, h0]
    · go_wp2
      go_ret
      refine ⟨?_, rfl⟩
      rw [HO.out, List.drop_of_length_le (by omega)]; simp [P.orI]
set_option maxHeartbeats 1000000 in
theorem compare_calls (a b : Vec) (w : World) : Calls Try.prog 89 #[.agg a.enc.toArray, .agg b.enc.toArray] w fun e w' => e = .returned (.int .i64 (P.compare a b)) ∧ Grow w w' := by
  go_enter Try.func89, Try.ntmps89
  go_wp2_with fail
  refine wp_region_ord (Ord.rds [0, 1, 2, 3, 5, 6, 7, 8, 10, 11, 12, 13, 15, 16, 17, 18] (.alt 4 (.alt 9 (.alt 14 (.alt 19 (.alt 20 (.alt 21 (Ord.rds [22] .done) .stop) .stop) .stop) .stop) .stop) .stop)) (by kernel_rfl) (by kernel_rfl) ?_
  repeat (refine wpM_rd rfl (fun K hK => ?_); go_simp; refine hK _ ?_; clear hK K)
  refine wpM_ef rfl (fun K hK hg => ?_) (Grow.refl _).drew wpM_stop
  go_simp
  refine (cmp_u64 _ _ _).mono ?_
  rintro e w' ⟨rfl, rfl⟩
  refine hK _ _ ⟨hg, ?_⟩; clear hK K
  refine wpM_ef rfl (fun K hK _ => ?_) hg wpM_stop
  go_simp
  refine (cmp_u32 _ _ _).mono ?_
  rintro e w' ⟨rfl, rfl⟩
  refine hK _ _ ⟨hg, ?_⟩; clear hK K
  refine wpM_ef rfl (fun K hK _ => ?_) hg wpM_stop
  go_simp
  refine (cmp_u64 _ _ _).mono ?_
  rintro e w' ⟨rfl, rfl⟩
  refine hK _ _ ⟨hg, ?_⟩; clear hK K
  refine wpM_ef rfl (fun K hK _ => ?_) hg wpM_stop
  go_simp
  refine (cmp_u16 _ _ _).mono ?_
  rintro e w' ⟨rfl, rfl⟩
  refine hK _ _ ⟨hg, ?_⟩; clear hK K
  refine wpM_ef rfl (fun K hK _ => ?_) hg wpM_stop
  go_simp
  refine hK _ _ ⟨hg.alloc _, ?_⟩; clear hK K
  refine wpM_ef rfl (fun K hK _ => ?_) (hg.alloc _) wpM_stop
  go_simp
  refine (or_calls _ _ [P.cmp a.root b.root, P.cmp a.cost b.cost, P.cmp a.bridge b.bridge, P.cmp a.port b.port] _ (by simp) (by have := At.alloc_new ((w.alloc (.cells a.enc.toArray 30)).alloc (.cells b.enc.toArray 30)) [.int .i64 (P.cmp a.root b.root), .int .i64 (P.cmp a.cost b.cost), .int .i64 (P.cmp a.bridge b.bridge), .int .i64 (P.cmp a.port b.port)] 3; simpa using this)).mono ?_
  rintro e w' ⟨rfl, rfl⟩
  refine hK _ _ ⟨hg.alloc _, ?_⟩; clear hK K
  repeat (refine wpM_rd rfl (fun K hK => ?_); go_simp; refine hK _ ?_; clear hK K)
  refine wpM_done ?_
  go_wp2
  go_ret
  exact ⟨rfl, ((((Grow.refl _).alloc _).alloc _).trans hg).alloc _⟩
set_option maxHeartbeats 400000 in
theorem better_calls (a b : Vec) (w : World) : Calls Try.prog 71 #[.agg a.enc.toArray, .agg b.enc.toArray] w fun e w' => e = .returned (.bool (P.better a b)) ∧ Grow w w' := by
  go_enter Try.func71, Try.ntmps71
  go_wp2_with (go_at_call 89; (with_reducible refine (compare_calls _ _ _).mono ?_); rintro e w' ⟨rfl, h⟩)
  go_ret
  refine ⟨by simp [P.better], Grow.trans (((Grow.refl _).alloc _).alloc _) (by simpa using h)⟩
end Go.Proofs.Ytogekloaijidhaa
