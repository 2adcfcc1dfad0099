import Derived.Test.YteaidhoimaphlaaGreatMKon
import Derived.Shelf.Abstract
import Derived.Deep.RegionHeld3
import Derived.Laws.EntriesVeiled
namespace Go.Proofs.YteaidhoimaphlaaGreat.PM
open Go.RowKit Go.Shelf Go.Proofs.YteaidhoimaphlaaGreatW.PrintWords Go.Proofs.YteaidhoimaphlaaGreatW.PrintLast Go.Proofs.YteaidhoimaphlaaGreatW.PrintMore
attribute [local go_sem] max2_int min2_int max_two min_two max_three min_three max_four min_four
set_option linter.unusedVariables false
set_option linter.unusedSimpArgs false
set_option maxHeartbeats 4000000 in
set_option maxRecDepth 100000 in
theorem K_check1 (c : LConf) (A6 : Option Addr) (n6 d6 : Nat) (A7 : Option Addr) (n7 d7 : Nat) (v n : Int) (hn : n ≤ 9223372036854775807) (W : World) (h6 : IsInts W (.slice A6 n6 d6) c.ps) (h7 : IsInts W (.slice A7 n7 d7) c.ls) (hp : c.ps.length ≤ 12) :
    Calls Tryz.prog 19 #[.agg #[.int .i64 c.th, .int .i64 c.st, .int .i64 c.ga, .int .i64 c.le, .int .i64 c.re, .int .i64 c.ti, .slice A6 n6 d6, .slice A7 n7 d7], .agg #[.int .i64 1, .int .i64 v, .int .i64 n]] W fun e w' => e = .returned (.int .i64 (checkE c 1 v n)) ∧ Below W.heap.size W w' := by
  have hu := Tryz.underlying24
  have hu2 := Tryz.underlying38
  have hu3 := Tryz.underlying66
  obtain ⟨X, hX⟩ : ∃ X, ((W.alloc (.cells #[.int .i64 c.th, .int .i64 c.st, .int .i64 c.ga, .int .i64 c.le, .int .i64 c.re, .int .i64 c.ti, .slice A6 n6 d6, .slice A7 n7 d7] 24)).alloc (.cells #[.int .i64 1, .int .i64 v, .int .i64 n] 38)) = X := ⟨_, rfl⟩
  have hXs : X.heap.size = W.heap.size + 1 + 1 := by rw [← hX]; simp
  have hb0 : ((X.alloc (.map kindsE 6)).drew).heap[W.heap.size + 1 + 1]? = some (.map kindsE 6) := by
    have := World.alloc_heap_new X (.map kindsE 6); rw [hXs] at this; exact this
  have hb2 : (((X.alloc (.map kindsE 6)).alloc (.cells #[.nilFunc, .nilFunc] 66)).drew).heap[W.heap.size + 1 + 1]? = some (.map kindsE 6) := by
    have := World.alloc_heap_new X (.map kindsE 6); rw [hXs] at this; exact blk_alloc this _
  have hb3 : (((X.alloc (.cells #[.nilFunc, .nilFunc] 66)).alloc (.map kindsE 6)).drew).heap[W.heap.size + 1 + 1 + 1]? = some (.map kindsE 6) := by
    have := World.alloc_heap_new (X.alloc (.cells #[.nilFunc, .nilFunc] 66)) (.map kindsE 6); rw [World.size_alloc, hXs] at this; exact this
  have hlk := run_look _ _ kindsE 6 1 0 (.agg #[.func (.func 43) #[] #[], .func (.func 44) #[] #[]]) hb0 rfl
  have hlk2 := run_look _ _ kindsE 6 1 0 (.agg #[.func (.func 43) #[] #[], .func (.func 44) #[] #[]]) hb2 rfl
  have hlk3 := run_look _ _ kindsE 6 1 0 (.agg #[.func (.func 43) #[] #[], .func (.func 44) #[] #[]]) hb3 rfl
  clear hb0 hb2 hb3 hXs
  subst hX
  have H6 := Aside0.mk h6
  have H7 := Aside0.mk h7
  clear h6 h7
  go_enter Tryz.func19, Tryz.ntmps19
  go_wp2_with (fail)
  go_region_held3 (fun w' => w'.cell? ⟨W.heap.size + 1, 0, none⟩ = some (.int .i64 1)) (first | go_keep) ((go_at_call 32; refine (kinds_any _).mono ?_; rintro e w' ⟨rfl, rfl⟩))
  all_goals
    clear hlk hlk2 hlk3
    go_wp2_with (fail)
  all_goals
    refine (K_callleaf c _ _ 1 v n _ ?_ ?_ hp).mono ?_
    · exact H6.out.below (by repeat (first | (with_reducible first | exact Below.refl _ _ | apply below_alloc | apply pw_below_drewN | apply below_drew1)))
    · exact H7.out.below (by repeat (first | (with_reducible first | exact Below.refl _ _ | apply below_alloc | apply pw_below_drewN | apply below_drew1)))
    rintro e w' ⟨rfl, hb⟩
    go_wp2_with (fail)
    go_ret
    exact ⟨rfl, below_step (by repeat (first | (with_reducible first | exact Below.refl _ _ | apply below_alloc | apply pw_below_drewN | apply below_drew1))) hb⟩
set_option maxHeartbeats 4000000 in
set_option maxRecDepth 100000 in
theorem K_check2 (c : LConf) (A6 : Option Addr) (n6 d6 : Nat) (A7 : Option Addr) (n7 d7 : Nat) (v n : Int) (hn : n ≤ 9223372036854775807) (W : World) (h6 : IsInts W (.slice A6 n6 d6) c.ps) (h7 : IsInts W (.slice A7 n7 d7) c.ls) (hp : c.ps.length ≤ 12) :
    Calls Tryz.prog 19 #[.agg #[.int .i64 c.th, .int .i64 c.st, .int .i64 c.ga, .int .i64 c.le, .int .i64 c.re, .int .i64 c.ti, .slice A6 n6 d6, .slice A7 n7 d7], .agg #[.int .i64 2, .int .i64 v, .int .i64 n]] W fun e w' => e = .returned (.int .i64 (checkE c 2 v n)) ∧ Below W.heap.size W w' := by
  have hu := Tryz.underlying24
  have hu2 := Tryz.underlying38
  have hu3 := Tryz.underlying66
  obtain ⟨X, hX⟩ : ∃ X, ((W.alloc (.cells #[.int .i64 c.th, .int .i64 c.st, .int .i64 c.ga, .int .i64 c.le, .int .i64 c.re, .int .i64 c.ti, .slice A6 n6 d6, .slice A7 n7 d7] 24)).alloc (.cells #[.int .i64 2, .int .i64 v, .int .i64 n] 38)) = X := ⟨_, rfl⟩
  have hXs : X.heap.size = W.heap.size + 1 + 1 := by rw [← hX]; simp
  have hb0 : ((X.alloc (.map kindsE 6)).drew).heap[W.heap.size + 1 + 1]? = some (.map kindsE 6) := by
    have := World.alloc_heap_new X (.map kindsE 6); rw [hXs] at this; exact this
  have hb2 : (((X.alloc (.map kindsE 6)).alloc (.cells #[.nilFunc, .nilFunc] 66)).drew).heap[W.heap.size + 1 + 1]? = some (.map kindsE 6) := by
    have := World.alloc_heap_new X (.map kindsE 6); rw [hXs] at this; exact blk_alloc this _
  have hb3 : (((X.alloc (.cells #[.nilFunc, .nilFunc] 66)).alloc (.map kindsE 6)).drew).heap[W.heap.size + 1 + 1 + 1]? = some (.map kindsE 6) := by
    have := World.alloc_heap_new (X.alloc (.cells #[.nilFunc, .nilFunc] 66)) (.map kindsE 6); rw [World.size_alloc, hXs] at this; exact this
  have hlk := run_look _ _ kindsE 6 2 1 (.agg #[.func (.func 46) #[] #[], .func (.func 47) #[] #[]]) hb0 rfl
  have hlk2 := run_look _ _ kindsE 6 2 1 (.agg #[.func (.func 46) #[] #[], .func (.func 47) #[] #[]]) hb2 rfl
  have hlk3 := run_look _ _ kindsE 6 2 1 (.agg #[.func (.func 46) #[] #[], .func (.func 47) #[] #[]]) hb3 rfl
  clear hb0 hb2 hb3 hXs
  subst hX
  have H6 := Aside0.mk h6
  have H7 := Aside0.mk h7
  clear h6 h7
  go_enter Tryz.func19, Tryz.ntmps19
  go_wp2_with (fail)
  go_region_held3 (fun w' => w'.cell? ⟨W.heap.size + 1, 0, none⟩ = some (.int .i64 2)) (first | go_keep) ((go_at_call 32; refine (kinds_any _).mono ?_; rintro e w' ⟨rfl, rfl⟩))
  all_goals
    clear hlk hlk2 hlk3
    go_wp2_with (fail)
  all_goals
    refine (K_callnamed c _ _ 2 v n hn _ ?_ ?_).mono ?_
    · exact H6.out.below (by repeat (first | (with_reducible first | exact Below.refl _ _ | apply below_alloc | apply pw_below_drewN | apply below_drew1)))
    · exact H7.out.below (by repeat (first | (with_reducible first | exact Below.refl _ _ | apply below_alloc | apply pw_below_drewN | apply below_drew1)))
    rintro e w' ⟨rfl, hb⟩
    go_wp2_with (fail)
    go_ret
    exact ⟨rfl, below_step (by repeat (first | (with_reducible first | exact Below.refl _ _ | apply below_alloc | apply pw_below_drewN | apply below_drew1))) hb⟩
set_option maxHeartbeats 4000000 in
set_option maxRecDepth 100000 in
theorem K_check3 (c : LConf) (A6 : Option Addr) (n6 d6 : Nat) (A7 : Option Addr) (n7 d7 : Nat) (v n : Int) (hn : n ≤ 9223372036854775807) (W : World) (h6 : IsInts W (.slice A6 n6 d6) c.ps) (h7 : IsInts W (.slice A7 n7 d7) c.ls) (hp : c.ps.length ≤ 12) :
    Calls Tryz.prog 19 #[.agg #[.int .i64 c.th, .int .i64 c.st, .int .i64 c.ga, .int .i64 c.le, .int .i64 c.re, .int .i64 c.ti, .slice A6 n6 d6, .slice A7 n7 d7], .agg #[.int .i64 3, .int .i64 v, .int .i64 n]] W fun e w' => e = .returned (.int .i64 (checkE c 3 v n)) ∧ Below W.heap.size W w' := by
  have hu := Tryz.underlying24
  have hu2 := Tryz.underlying38
  have hu3 := Tryz.underlying66
  obtain ⟨X, hX⟩ : ∃ X, ((W.alloc (.cells #[.int .i64 c.th, .int .i64 c.st, .int .i64 c.ga, .int .i64 c.le, .int .i64 c.re, .int .i64 c.ti, .slice A6 n6 d6, .slice A7 n7 d7] 24)).alloc (.cells #[.int .i64 3, .int .i64 v, .int .i64 n] 38)) = X := ⟨_, rfl⟩
  have hXs : X.heap.size = W.heap.size + 1 + 1 := by rw [← hX]; simp
  have hb0 : ((X.alloc (.map kindsE 6)).drew).heap[W.heap.size + 1 + 1]? = some (.map kindsE 6) := by
    have := World.alloc_heap_new X (.map kindsE 6); rw [hXs] at this; exact this
  have hb2 : (((X.alloc (.map kindsE 6)).alloc (.cells #[.nilFunc, .nilFunc] 66)).drew).heap[W.heap.size + 1 + 1]? = some (.map kindsE 6) := by
    have := World.alloc_heap_new X (.map kindsE 6); rw [hXs] at this; exact blk_alloc this _
  have hb3 : (((X.alloc (.cells #[.nilFunc, .nilFunc] 66)).alloc (.map kindsE 6)).drew).heap[W.heap.size + 1 + 1 + 1]? = some (.map kindsE 6) := by
    have := World.alloc_heap_new (X.alloc (.cells #[.nilFunc, .nilFunc] 66)) (.map kindsE 6); rw [World.size_alloc, hXs] at this; exact this
  have hlk := run_look _ _ kindsE 6 3 2 (.agg #[.func (.func 49) #[] #[], .func (.func 50) #[] #[]]) hb0 rfl
  have hlk2 := run_look _ _ kindsE 6 3 2 (.agg #[.func (.func 49) #[] #[], .func (.func 50) #[] #[]]) hb2 rfl
  have hlk3 := run_look _ _ kindsE 6 3 2 (.agg #[.func (.func 49) #[] #[], .func (.func 50) #[] #[]]) hb3 rfl
  clear hb0 hb2 hb3 hXs
  subst hX
  have H6 := Aside0.mk h6
  have H7 := Aside0.mk h7
  clear h6 h7
  go_enter Tryz.func19, Tryz.ntmps19
  go_wp2_with (fail)
  go_region_held3 (fun w' => w'.cell? ⟨W.heap.size + 1, 0, none⟩ = some (.int .i64 3)) (first | go_keep) ((go_at_call 32; refine (kinds_any _).mono ?_; rintro e w' ⟨rfl, rfl⟩))
  all_goals
    clear hlk hlk2 hlk3
    go_wp2_with (fail)
  all_goals
    refine (K_callmoved c _ _ 3 v n _ ?_ ?_).mono ?_
    · exact H6.out.below (by repeat (first | (with_reducible first | exact Below.refl _ _ | apply below_alloc | apply pw_below_drewN | apply below_drew1)))
    · exact H7.out.below (by repeat (first | (with_reducible first | exact Below.refl _ _ | apply below_alloc | apply pw_below_drewN | apply below_drew1)))
    rintro e w' ⟨rfl, hb⟩
    go_wp2_with (fail)
    go_ret
    exact ⟨rfl, below_step (by repeat (first | (with_reducible first | exact Below.refl _ _ | apply below_alloc | apply pw_below_drewN | apply below_drew1))) hb⟩
set_option maxHeartbeats 4000000 in
set_option maxRecDepth 100000 in
theorem K_check4 (c : LConf) (A6 : Option Addr) (n6 d6 : Nat) (A7 : Option Addr) (n7 d7 : Nat) (v n : Int) (hn : n ≤ 9223372036854775807) (W : World) (h6 : IsInts W (.slice A6 n6 d6) c.ps) (h7 : IsInts W (.slice A7 n7 d7) c.ls) (hp : c.ps.length ≤ 12) :
    Calls Tryz.prog 19 #[.agg #[.int .i64 c.th, .int .i64 c.st, .int .i64 c.ga, .int .i64 c.le, .int .i64 c.re, .int .i64 c.ti, .slice A6 n6 d6, .slice A7 n7 d7], .agg #[.int .i64 4, .int .i64 v, .int .i64 n]] W fun e w' => e = .returned (.int .i64 (checkE c 4 v n)) ∧ Below W.heap.size W w' := by
  have hu := Tryz.underlying24
  have hu2 := Tryz.underlying38
  have hu3 := Tryz.underlying66
  obtain ⟨X, hX⟩ : ∃ X, ((W.alloc (.cells #[.int .i64 c.th, .int .i64 c.st, .int .i64 c.ga, .int .i64 c.le, .int .i64 c.re, .int .i64 c.ti, .slice A6 n6 d6, .slice A7 n7 d7] 24)).alloc (.cells #[.int .i64 4, .int .i64 v, .int .i64 n] 38)) = X := ⟨_, rfl⟩
  have hXs : X.heap.size = W.heap.size + 1 + 1 := by rw [← hX]; simp
  have hb0 : ((X.alloc (.map kindsE 6)).drew).heap[W.heap.size + 1 + 1]? = some (.map kindsE 6) := by
    have := World.alloc_heap_new X (.map kindsE 6); rw [hXs] at this; exact this
  have hb2 : (((X.alloc (.map kindsE 6)).alloc (.cells #[.nilFunc, .nilFunc] 66)).drew).heap[W.heap.size + 1 + 1]? = some (.map kindsE 6) := by
    have := World.alloc_heap_new X (.map kindsE 6); rw [hXs] at this; exact blk_alloc this _
  have hb3 : (((X.alloc (.cells #[.nilFunc, .nilFunc] 66)).alloc (.map kindsE 6)).drew).heap[W.heap.size + 1 + 1 + 1]? = some (.map kindsE 6) := by
    have := World.alloc_heap_new (X.alloc (.cells #[.nilFunc, .nilFunc] 66)) (.map kindsE 6); rw [World.size_alloc, hXs] at this; exact this
  have hlk := run_look _ _ kindsE 6 4 3 (.agg #[.func (.func 49) #[] #[], .func (.func 52) #[] #[]]) hb0 rfl
  have hlk2 := run_look _ _ kindsE 6 4 3 (.agg #[.func (.func 49) #[] #[], .func (.func 52) #[] #[]]) hb2 rfl
  have hlk3 := run_look _ _ kindsE 6 4 3 (.agg #[.func (.func 49) #[] #[], .func (.func 52) #[] #[]]) hb3 rfl
  clear hb0 hb2 hb3 hXs
  subst hX
  have H6 := Aside0.mk h6
  have H7 := Aside0.mk h7
  clear h6 h7
  go_enter Tryz.func19, Tryz.ntmps19
  go_wp2_with (fail)
  go_region_held3 (fun w' => w'.cell? ⟨W.heap.size + 1, 0, none⟩ = some (.int .i64 4)) (first | go_keep) ((go_at_call 32; refine (kinds_any _).mono ?_; rintro e w' ⟨rfl, rfl⟩))
  all_goals
    clear hlk hlk2 hlk3
    go_wp2_with (fail)
  all_goals
    refine (K_callmoved c _ _ 4 v n _ ?_ ?_).mono ?_
    · exact H6.out.below (by repeat (first | (with_reducible first | exact Below.refl _ _ | apply below_alloc | apply pw_below_drewN | apply below_drew1)))
    · exact H7.out.below (by repeat (first | (with_reducible first | exact Below.refl _ _ | apply below_alloc | apply pw_below_drewN | apply below_drew1)))
    rintro e w' ⟨rfl, hb⟩
    go_wp2_with (fail)
    go_ret
    exact ⟨rfl, below_step (by repeat (first | (with_reducible first | exact Below.refl _ _ | apply below_alloc | apply pw_below_drewN | apply below_drew1))) hb⟩
set_option maxHeartbeats 4000000 in
set_option maxRecDepth 100000 in
theorem K_check5 (c : LConf) (A6 : Option Addr) (n6 d6 : Nat) (A7 : Option Addr) (n7 d7 : Nat) (v n : Int) (hn : n ≤ 9223372036854775807) (W : World) (h6 : IsInts W (.slice A6 n6 d6) c.ps) (h7 : IsInts W (.slice A7 n7 d7) c.ls) (hp : c.ps.length ≤ 12) :
    Calls Tryz.prog 19 #[.agg #[.int .i64 c.th, .int .i64 c.st, .int .i64 c.ga, .int .i64 c.le, .int .i64 c.re, .int .i64 c.ti, .slice A6 n6 d6, .slice A7 n7 d7], .agg #[.int .i64 5, .int .i64 v, .int .i64 n]] W fun e w' => e = .returned (.int .i64 (checkE c 5 v n)) ∧ Below W.heap.size W w' := by
  have hu := Tryz.underlying24
  have hu2 := Tryz.underlying38
  have hu3 := Tryz.underlying66
  obtain ⟨X, hX⟩ : ∃ X, ((W.alloc (.cells #[.int .i64 c.th, .int .i64 c.st, .int .i64 c.ga, .int .i64 c.le, .int .i64 c.re, .int .i64 c.ti, .slice A6 n6 d6, .slice A7 n7 d7] 24)).alloc (.cells #[.int .i64 5, .int .i64 v, .int .i64 n] 38)) = X := ⟨_, rfl⟩
  have hXs : X.heap.size = W.heap.size + 1 + 1 := by rw [← hX]; simp
  have hb0 : ((X.alloc (.map kindsE 6)).drew).heap[W.heap.size + 1 + 1]? = some (.map kindsE 6) := by
    have := World.alloc_heap_new X (.map kindsE 6); rw [hXs] at this; exact this
  have hb2 : (((X.alloc (.map kindsE 6)).alloc (.cells #[.nilFunc, .nilFunc] 66)).drew).heap[W.heap.size + 1 + 1]? = some (.map kindsE 6) := by
    have := World.alloc_heap_new X (.map kindsE 6); rw [hXs] at this; exact blk_alloc this _
  have hb3 : (((X.alloc (.cells #[.nilFunc, .nilFunc] 66)).alloc (.map kindsE 6)).drew).heap[W.heap.size + 1 + 1 + 1]? = some (.map kindsE 6) := by
    have := World.alloc_heap_new (X.alloc (.cells #[.nilFunc, .nilFunc] 66)) (.map kindsE 6); rw [World.size_alloc, hXs] at this; exact this
  have hlk := run_look _ _ kindsE 6 5 4 (.agg #[.func (.func 54) #[] #[], .func (.func 55) #[] #[]]) hb0 rfl
  have hlk2 := run_look _ _ kindsE 6 5 4 (.agg #[.func (.func 54) #[] #[], .func (.func 55) #[] #[]]) hb2 rfl
  have hlk3 := run_look _ _ kindsE 6 5 4 (.agg #[.func (.func 54) #[] #[], .func (.func 55) #[] #[]]) hb3 rfl
  clear hb0 hb2 hb3 hXs
  subst hX
  have H6 := Aside0.mk h6
  have H7 := Aside0.mk h7
  clear h6 h7
  go_enter Tryz.func19, Tryz.ntmps19
  go_wp2_with (fail)
  go_region_held3 (fun w' => w'.cell? ⟨W.heap.size + 1, 0, none⟩ = some (.int .i64 5)) (first | go_keep) ((go_at_call 32; refine (kinds_any _).mono ?_; rintro e w' ⟨rfl, rfl⟩))
  all_goals
    clear hlk hlk2 hlk3
    go_wp2_with (fail)
  all_goals
    refine (K_callnode c _ _ 5 v n _ ?_ ?_).mono ?_
    · exact H6.out.below (by repeat (first | (with_reducible first | exact Below.refl _ _ | apply below_alloc | apply pw_below_drewN | apply below_drew1)))
    · exact H7.out.below (by repeat (first | (with_reducible first | exact Below.refl _ _ | apply below_alloc | apply pw_below_drewN | apply below_drew1)))
    rintro e w' ⟨rfl, hb⟩
    go_wp2_with (fail)
    go_ret
    exact ⟨rfl, below_step (by repeat (first | (with_reducible first | exact Below.refl _ _ | apply below_alloc | apply pw_below_drewN | apply below_drew1))) hb⟩
set_option maxHeartbeats 4000000 in
set_option maxRecDepth 100000 in
theorem K_check6 (c : LConf) (A6 : Option Addr) (n6 d6 : Nat) (A7 : Option Addr) (n7 d7 : Nat) (v n : Int) (hn : n ≤ 9223372036854775807) (W : World) (h6 : IsInts W (.slice A6 n6 d6) c.ps) (h7 : IsInts W (.slice A7 n7 d7) c.ls) (hp : c.ps.length ≤ 12) :
    Calls Tryz.prog 19 #[.agg #[.int .i64 c.th, .int .i64 c.st, .int .i64 c.ga, .int .i64 c.le, .int .i64 c.re, .int .i64 c.ti, .slice A6 n6 d6, .slice A7 n7 d7], .agg #[.int .i64 6, .int .i64 v, .int .i64 n]] W fun e w' => e = .returned (.int .i64 (checkE c 6 v n)) ∧ Below W.heap.size W w' := by
  have hu := Tryz.underlying24
  have hu2 := Tryz.underlying38
  have hu3 := Tryz.underlying66
  obtain ⟨X, hX⟩ : ∃ X, ((W.alloc (.cells #[.int .i64 c.th, .int .i64 c.st, .int .i64 c.ga, .int .i64 c.le, .int .i64 c.re, .int .i64 c.ti, .slice A6 n6 d6, .slice A7 n7 d7] 24)).alloc (.cells #[.int .i64 6, .int .i64 v, .int .i64 n] 38)) = X := ⟨_, rfl⟩
  have hXs : X.heap.size = W.heap.size + 1 + 1 := by rw [← hX]; simp
  have hb0 : ((X.alloc (.map kindsE 6)).drew).heap[W.heap.size + 1 + 1]? = some (.map kindsE 6) := by
    have := World.alloc_heap_new X (.map kindsE 6); rw [hXs] at this; exact this
  have hb2 : (((X.alloc (.map kindsE 6)).alloc (.cells #[.nilFunc, .nilFunc] 66)).drew).heap[W.heap.size + 1 + 1]? = some (.map kindsE 6) := by
    have := World.alloc_heap_new X (.map kindsE 6); rw [hXs] at this; exact blk_alloc this _
  have hb3 : (((X.alloc (.cells #[.nilFunc, .nilFunc] 66)).alloc (.map kindsE 6)).drew).heap[W.heap.size + 1 + 1 + 1]? = some (.map kindsE 6) := by
    have := World.alloc_heap_new (X.alloc (.cells #[.nilFunc, .nilFunc] 66)) (.map kindsE 6); rw [World.size_alloc, hXs] at this; exact this
  have hlk := run_look _ _ kindsE 6 6 5 (.agg #[.func (.func 54) #[] #[], .func (.func 57) #[] #[]]) hb0 rfl
  have hlk2 := run_look _ _ kindsE 6 6 5 (.agg #[.func (.func 54) #[] #[], .func (.func 57) #[] #[]]) hb2 rfl
  have hlk3 := run_look _ _ kindsE 6 6 5 (.agg #[.func (.func 54) #[] #[], .func (.func 57) #[] #[]]) hb3 rfl
  clear hb0 hb2 hb3 hXs
  subst hX
  have H6 := Aside0.mk h6
  have H7 := Aside0.mk h7
  clear h6 h7
  go_enter Tryz.func19, Tryz.ntmps19
  go_wp2_with (fail)
  go_region_held3 (fun w' => w'.cell? ⟨W.heap.size + 1, 0, none⟩ = some (.int .i64 6)) (first | go_keep) ((go_at_call 32; refine (kinds_any _).mono ?_; rintro e w' ⟨rfl, rfl⟩))
  all_goals
    clear hlk hlk2 hlk3
    go_wp2_with (fail)
  all_goals
    refine (K_callnode c _ _ 6 v n _ ?_ ?_).mono ?_
    · exact H6.out.below (by repeat (first | (with_reducible first | exact Below.refl _ _ | apply below_alloc | apply pw_below_drewN | apply below_drew1)))
    · exact H7.out.below (by repeat (first | (with_reducible first | exact Below.refl _ _ | apply below_alloc | apply pw_below_drewN | apply below_drew1)))
    rintro e w' ⟨rfl, hb⟩
    go_wp2_with (fail)
    go_ret
    exact ⟨rfl, below_step (by repeat (first | (with_reducible first | exact Below.refl _ _ | apply below_alloc | apply pw_below_drewN | apply below_drew1))) hb⟩
set_option maxHeartbeats 4000000 in
set_option maxRecDepth 100000 in
theorem K_check0 (c : LConf) (A6 : Option Addr) (n6 d6 : Nat) (A7 : Option Addr) (n7 d7 : Nat) (k v n : Int) (hn : n ≤ 9223372036854775807) (W : World) (h6 : IsInts W (.slice A6 n6 d6) c.ps) (h7 : IsInts W (.slice A7 n7 d7) c.ls) (hp : c.ps.length ≤ 12) (hk : ∀ j : Int, 1 ≤ j → j ≤ 6 → k ≠ j) :
    Calls Tryz.prog 19 #[.agg #[.int .i64 c.th, .int .i64 c.st, .int .i64 c.ga, .int .i64 c.le, .int .i64 c.re, .int .i64 c.ti, .slice A6 n6 d6, .slice A7 n7 d7], .agg #[.int .i64 k, .int .i64 v, .int .i64 n]] W fun e w' => e = .returned (.int .i64 (checkE c k v n)) ∧ Below W.heap.size W w' := by
  have hu := Tryz.underlying24
  have hu2 := Tryz.underlying38
  have hu3 := Tryz.underlying66
  obtain ⟨X, hX⟩ : ∃ X, ((W.alloc (.cells #[.int .i64 c.th, .int .i64 c.st, .int .i64 c.ga, .int .i64 c.le, .int .i64 c.re, .int .i64 c.ti, .slice A6 n6 d6, .slice A7 n7 d7] 24)).alloc (.cells #[.int .i64 k, .int .i64 v, .int .i64 n] 38)) = X := ⟨_, rfl⟩
  have hXs : X.heap.size = W.heap.size + 1 + 1 := by rw [← hX]; simp
  have hb0 : ((X.alloc (.map kindsE 6)).drew).heap[W.heap.size + 1 + 1]? = some (.map kindsE 6) := by
    have := World.alloc_heap_new X (.map kindsE 6); rw [hXs] at this; exact this
  have hb2 : (((X.alloc (.map kindsE 6)).alloc (.cells #[.nilFunc, .nilFunc] 66)).drew).heap[W.heap.size + 1 + 1]? = some (.map kindsE 6) := by
    have := World.alloc_heap_new X (.map kindsE 6); rw [hXs] at this; exact blk_alloc this _
  have hb3 : (((X.alloc (.cells #[.nilFunc, .nilFunc] 66)).alloc (.map kindsE 6)).drew).heap[W.heap.size + 1 + 1 + 1]? = some (.map kindsE 6) := by
    have := World.alloc_heap_new (X.alloc (.cells #[.nilFunc, .nilFunc] 66)) (.map kindsE 6); rw [World.size_alloc, hXs] at this; exact this
  have hne : ∀ j : Int, 1 ≤ j → j ≤ 6 → (k == j) = false := fun j h1 h2 => by simpa using hk j h1 h2
  have hfn : Instr.findNow (.int .i64) (.int .i64 k) kindsE.toList 0 = some none := by
    have e1 := hne 1 (by omega) (by omega)
    have e2 := hne 2 (by omega) (by omega)
    have e3 := hne 3 (by omega) (by omega)
    have e4 := hne 4 (by omega) (by omega)
    have e5 := hne 5 (by omega) (by omega)
    have e6 := hne 6 (by omega) (by omega)
    simp [kindsE, kindE, Instr.findNow, Instr.sameNow, e1, e2, e3, e4, e5, e6]
  have hlk := run_look_no _ _ kindsE 6 k hb0 hfn
  have hlk2 := run_look_no _ _ kindsE 6 k hb2 hfn
  have hlk3 := run_look_no _ _ kindsE 6 k hb3 hfn
  clear hfn
  have HK := Aside0.mk hk
  clear hk hne
  clear hb0 hb2 hb3 hXs
  subst hX
  have H6 := Aside0.mk h6
  have H7 := Aside0.mk h7
  clear h6 h7
  go_enter Tryz.func19, Tryz.ntmps19
  go_wp2_with (fail)
  go_region_held3 (fun w' => w'.cell? ⟨W.heap.size + 1, 0, none⟩ = some (.int .i64 k)) (first | go_keep) ((go_at_call 32; refine (kinds_any _).mono ?_; rintro e w' ⟨rfl, rfl⟩))
  all_goals
    clear hlk hlk2 hlk3
    go_wp2_with (fail)
  all_goals
    go_ret
    have hk := HK.out
    have e1 := hk 1 (by omega) (by omega)
    have e2 := hk 2 (by omega) (by omega)
    have e3 := hk 3 (by omega) (by omega)
    have e4 := hk 4 (by omega) (by omega)
    have e5 := hk 5 (by omega) (by omega)
    have e6 := hk 6 (by omega) (by omega)
    refine ⟨?_, by repeat (first | (with_reducible first | exact Below.refl _ _ | apply below_alloc | apply pw_below_drewN | apply below_drew1))⟩
    unfold checkE
    rw [if_neg e1, if_neg e2, if_neg (by omega), if_neg (by omega)]
    rfl
theorem K_check (c : LConf) (A6 : Option Addr) (n6 d6 : Nat) (A7 : Option Addr) (n7 d7 : Nat) (k v n : Int) (hn : n ≤ 9223372036854775807) (W : World) (h6 : IsInts W (.slice A6 n6 d6) c.ps) (h7 : IsInts W (.slice A7 n7 d7) c.ls) (hp : c.ps.length ≤ 12) :
    Calls Tryz.prog 19 #[.agg #[.int .i64 c.th, .int .i64 c.st, .int .i64 c.ga, .int .i64 c.le, .int .i64 c.re, .int .i64 c.ti, .slice A6 n6 d6, .slice A7 n7 d7], .agg #[.int .i64 k, .int .i64 v, .int .i64 n]] W fun e w' => e = .returned (.int .i64 (checkE c k v n)) ∧ Below W.heap.size W w' := by
  by_cases e1 : k = 1
  · subst e1; exact K_check1 c A6 n6 d6 A7 n7 d7 v n hn W h6 h7 hp
  by_cases e2 : k = 2
  · subst e2; exact K_check2 c A6 n6 d6 A7 n7 d7 v n hn W h6 h7 hp
  by_cases e3 : k = 3
  · subst e3; exact K_check3 c A6 n6 d6 A7 n7 d7 v n hn W h6 h7 hp
  by_cases e4 : k = 4
  · subst e4; exact K_check4 c A6 n6 d6 A7 n7 d7 v n hn W h6 h7 hp
  by_cases e5 : k = 5
  · subst e5; exact K_check5 c A6 n6 d6 A7 n7 d7 v n hn W h6 h7 hp
  by_cases e6 : k = 6
  · subst e6; exact K_check6 c A6 n6 d6 A7 n7 d7 v n hn W h6 h7 hp
  exact K_check0 c A6 n6 d6 A7 n7 d7 k v n hn W h6 h7 hp (fun j h1 h2 e => by omega)
end Go.Proofs.YteaidhoimaphlaaGreat.PM
