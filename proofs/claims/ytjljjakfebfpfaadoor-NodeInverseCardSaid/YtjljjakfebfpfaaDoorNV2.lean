/-
  The sum of vectors.
-/
import Derived.Test.YtjljjakfebfpfaaDoorNV1
set_option autoImplicit false
set_option linter.unusedVariables false
set_option linter.unusedSimpArgs false
namespace Go.Proofs.YtjljjakfebfpfaaDoor
open Go.Abs

/-! A row of rows -/
theorem wide_ok (l : List (List Int)) (h0 : 0 < l.length) (v : List Int) :
    ACalls env 87 [.d (sl v), .pvar 0 0] [.var [.d (sll l)]] fun r H' => r = .d (.bool (B (v.length ≠ (l.getD 0 []).length))) ∧ H' = [.var [.d (sll l)]] := by
  refine acalls_of envOk Tryd.func87 rfl (by kernel_rfl) (m := 9) rfl ?_
  simp only [ints_length, intss_length, ty3, T3, ty43, T43, ty54, T54, ints_length, intss_length, sl, sll, Kat_go, Kreg_go, Qseq_normal, aret_ret, aregL_nil, aregL_plain, awpL_region, awpL_seq, awpL_ret, aop_move, aop_assign, aop_load, aop_binOp, aop_indexAddr, aop_len, apureCall, ev, cst, putT, aopBin, isSl, abin, aint, rowLen, alen, rowPtr, aidx, aload, rdRow, ldK, kd, esz, List.getD_cons_zero, List.getD_cons_succ, List.set_cons_zero, List.set_cons_succ, List.getElem?_cons_zero, List.length_cons, List.length_nil, List.cons_append, List.nil_append, List.reduceReplicate, Nat.reduceLT, true_and, ne_eq, Nat.zero_add, Int.toNat_zero, Int.reduceLE]
  refine ⟨by omega, ?_⟩
  simp only [h0, cel_intss, ints_length, ints_length, true_and]
  refine WK.now ?_
  simp only [Tryd.results87, Kcons_go, Kone_go, Kfin_go, aresL_nil, aresL_tmp, allDefr_nil, offs_nil, one?, List.getD_cons_zero, List.getD_cons_succ, true_and, and_true, List.toList_toArray]
  rw [bne_nat]
theorem indexL_ok (l : List (List Int)) (h0 : 0 < l.length) (hl : Sz l) :
    ACalls env 102 [.d (sll l), .func 87 [.pvar 0 0]] [.var [.d (sll l)]] fun r H' => (∃ n : Int, r = .d (.int .i64 n) ∧ (0 ≤ n ↔ ∃ j, j < l.length ∧ (l.getD j []).length ≠ (l.getD 0 []).length)) ∧ H' = [.var [.d (sll l)]] := by
  refine acalls_of envOk Tryd.func102 rfl (by kernel_rfl) (m := 17) rfl ?_
  simp only [intss_length, ty54, T54, intss_length, sll, Kat_go, Kreg_go, Qseq_normal, aregL_nil, aregL_plain, awpL_region, awpL_seq, awpL_block, awpL_loop, aop_move, aop_assign, aop_len, apureCall, ev, cst, putT, rowLen, alen, kd, List.getD_cons_zero, List.getD_cons_succ, List.set_cons_zero, List.set_cons_succ, List.length_cons, List.length_nil, List.cons_append, List.nil_append, List.reduceReplicate, ne_eq, Nat.zero_add, Int.reduceNeg]
  refine ALoop.mk (fun k t H ds => ∃ i : Nat, k = l.length - i ∧ i ≤ l.length ∧ (∀ j, j < i → (l.getD j []).length = (l.getD 0 []).length) ∧ t = [.d (.slice 1 (intss l)), .func 87 [.pvar 0 0], .dead, .dead, .d (.int .i64 0), .dead, .dead, .d (.int .i64 l.length), .d (.int .i64 (i : Nat)), .dead, .dead, .dead, .dead, .dead, .dead, .dead, .dead, .dead, .dead] ∧ H = [.var [.d (sll l)]] ∧ ds = []) l.length
    (WK.fgt (t' := [.d (.slice 1 (intss l)), .func 87 [.pvar 0 0], .dead, .dead, .d (.int .i64 0), .dead, .dead, .d (.int .i64 l.length), .d (.int .i64 (0 : Nat)), .dead, .dead, .dead, .dead, .dead, .dead, .dead, .dead, .dead, .dead]) (by simp [fgt]) (WK.now ⟨0, by omega, by omega, by omega, rfl, rfl, rfl⟩)) ?_
  rintro k t H ds ⟨i, rfl, hi, hp, rfl, rfl, rfl⟩
  simp only [ty3, T3, sll, Int.ofNat_lt, Kat_go, Kreg_go, Qseq_normal, aregL_nil, aregL_plain, awpL_region, awpL_seq, awpL_cond, aop_binOp, ev, putT, aopBin, isSl, abin, aint, kd, List.getD_cons_zero, List.getD_cons_succ, List.set_cons_zero, List.set_cons_succ, true_and, Int.reduceNeg]
  refine Kbr.mk (fun c => ?_) (fun c => ?_)
  · have c2 : i < l.length := by simpa using c
    simp only [c2, cel_intss, intss_length, ty43, T43, ty54, T54, ext87, intss_length, Int.natCast_nonneg, Int.ofNat_lt, Kat_go, Kreg_go, Qseq_normal, aregL_nil, aregL_plain, awpL_skip, awpL_region, awpL_seq, awpL_block, aop_move, aop_assign, aop_load, aop_indexAddr, aop_call, acallF_go, ev, putT, rowPtr, aidx, aload, rdRow, ldK, kd, esz, List.getD_cons_zero, List.getD_cons_succ, List.set_cons_zero, List.set_cons_succ, List.map_cons, List.map_nil, List.cons_append, List.nil_append, Nat.reduceLT, true_and, Int.toNat_natCast, Int.reduceNeg, decide_true]
    refine (wide_ok l h0 (l.getD i [])).thus (WK.now ?_)
    simp only [sll, Qseq_normal, aregL_nil, awpL_cond, ev, putT, List.getD_cons_zero, List.getD_cons_succ, List.set_cons_zero, List.set_cons_succ, ne_eq, Int.reduceNeg]
    refine Kbr.mk (fun c => ?_) (fun c => ?_)
    · have c3 := B_iff.1 c
      simp only [Qloop_ret, Kreg_go, Qseq_normal, Qseq_ret, Qblk_ret, aret_ret, aregL_nil, aregL_plain, awpL_region, awpL_seq, awpL_ret, aop_move, aop_assign, ev, putT, List.getD_cons_zero, List.getD_cons_succ, List.set_cons_zero, List.set_cons_succ, Int.reduceNeg]
      refine WK.now ?_
      simp only [Tryd.results102, Kcons_go, Kone_go, Kfin_go, aresL_nil, aresL_tmp, allDefr_nil, offs_nil, one?, List.getD_cons_zero, List.getD_cons_succ, true_and, and_true, List.toList_toArray]
      exact ⟨_, rfl, ⟨fun _ => ⟨i, c2, c3⟩, fun _ => by omega⟩⟩
    · have c3 := B_not.1 c
      simp only [succ64 c2 (Nat.le_trans hl (by omega)), ty3, T3, Qloop_normal, Kat_go, Kreg_go, Qseq_normal, Qblk_normal, aregL_nil, aregL_plain, awpL_skip, awpL_region, aop_move, aop_binOp, ev, cst, putT, aopBin, isSl, abin, aint, kd, List.getD_cons_zero, List.getD_cons_succ, List.set_cons_zero, List.set_cons_succ, true_and, Int.reduceNeg]
      refine ⟨l.length - (i + 1), by omega, WK.fgt (t' := [.d (.slice 1 (intss l)), .func 87 [.pvar 0 0], .dead, .dead, .d (.int .i64 0), .dead, .dead, .d (.int .i64 l.length), .d (.int .i64 (i + 1 : Nat)), .dead, .dead, .dead, .dead, .dead, .dead, .dead, .dead, .dead, .dead]) (by simp [fgt]) (WK.now ⟨i + 1, rfl, by omega, fun j hj => ?_, rfl, rfl, rfl⟩)⟩
      rcases Nat.lt_succ_iff_lt_or_eq.1 hj with hj | rfl
      · exact hp j hj
      · omega
  · have c2 : ¬ i < l.length := by simpa using c
    simp only [Qloop_exit, Kreg_go, Qseq_normal, Qseq_exit, Qblk_exit, aret_ret, aregL_nil, aregL_plain, awpL_region, awpL_seq, awpL_exit, awpL_ret, aop_assign, ev, cst, putT, List.set_cons_zero, List.set_cons_succ, if_true, Int.reduceNeg]
    refine WK.now ?_
    simp only [Tryd.results102, Kcons_go, Kone_go, Kfin_go, aresL_nil, aresL_tmp, allDefr_nil, offs_nil, one?, List.getD_cons_zero, List.getD_cons_succ, true_and, and_true, Int.reduceNeg, List.toList_toArray]
    refine ⟨_, rfl, ⟨fun h => absurd h (by omega), fun ⟨j, hj, hne⟩ => absurd (hp j (by omega)) hne⟩⟩
theorem contains_ok (l : List (List Int)) (h0 : 0 < l.length) (hl : Sz l) :
    ACalls env 86 [.d (sll l), .func 87 [.pvar 0 0]] [.var [.d (sll l)]] fun r H' => r = .d (.bool (B (∃ j, j < l.length ∧ (l.getD j []).length ≠ (l.getD 0 []).length))) ∧ H' = [.var [.d (sll l)]] := by
  refine acalls_of envOk Tryd.func86 rfl (by kernel_rfl) (m := 7) rfl ?_
  simp only [ext102, sll, Kreg_go, Qseq_normal, aregL_nil, aregL_plain, awpL_region, awpL_seq, aop_move, aop_assign, aop_call, acallF_go, ev, cst, putT, List.getD_cons_zero, List.getD_cons_succ, List.set_cons_zero, List.set_cons_succ, List.length_cons, List.length_nil, List.map_cons, List.map_nil, List.cons_append, List.nil_append, List.append_nil, List.reduceReplicate, ne_eq, Nat.zero_add]
  refine (indexL_ok l h0 hl).mono ?_
  rintro r H' ⟨⟨n, rfl, hn⟩, rfl⟩
  refine WK.now ?_
  simp only [ty3, T3, sll, Kat_go, Kreg_go, Qseq_normal, aret_ret, aregL_nil, aregL_plain, awpL_ret, aop_assign, aop_binOp, ev, cst, putT, aopBin, isSl, abin, aint, kd, List.getD_cons_zero, List.getD_cons_succ, List.set_cons_zero, List.set_cons_succ, true_and]
  refine WK.now ?_
  simp only [Tryd.results86, Kcons_go, Kone_go, Kfin_go, aresL_nil, aresL_tmp, allDefr_nil, offs_nil, one?, List.getD_cons_zero, List.getD_cons_succ, true_and, and_true, List.toList_toArray]
  rw [B_dec]
  exact congrArg (fun p => AV.d (D.bool (B p))) (propext hn)
theorem add64_go {x y c : Int} (h : 0 ≤ x ∧ 0 ≤ y ∧ 0 ≤ c ∧ c ≤ 1) : add64A [.d (.int .u64 x), .d (.int .u64 y), .d (.int .u64 c)] =
    some (.d (.tup [.int .u64 ((x + y + c) % 18446744073709551616), .int .u64 ((x + y + c) / 18446744073709551616)])) := by simp [add64A, h]
theorem fdiv63' (n : Int) : n.fdiv 9223372036854775808 = n / 9223372036854775808 := Int.fdiv_eq_ediv_of_nonneg _ (by decide)
def psum (f : Nat → Int) : Nat → Int
  | 0 => 0
  | n + 1 => psum f n + f n
def at2 (l : List (List Int)) (k j : Nat) : Int := (l.getD j []).getD k 0
def colS (l : List (List Int)) (k : Nat) : Int := psum (at2 l k) l.length
theorem psum_bound (f : Nat → Int) (hf : ∀ j, I64 (f j)) : ∀ n : Nat, -(9223372036854775808 * (n : Int)) ≤ psum f n ∧ psum f n ≤ 9223372036854775808 * (n : Int)
  | 0 => by simp [psum]
  | n + 1 => by
    have := psum_bound f hf n
    have h := hf n
    unfold I64 at h
    simp only [psum]
    omega
def InRs (l : List (List Int)) : Prop := ∀ j, InR (l.getD j [])

theorem sum_ok (l : List (List Int)) (k : Nat) (hl : Sz l) (rl : InRs l) (hk : ∀ j, j < l.length → k < (l.getD j []).length) :
    PCall env 88 [sll l, .int .i64 (k : Nat)] (.tup [.int .i64 (IntKind.wrap .i64 (colS l k)), .bool (B (I64 (colS l k)))]) := by
  refine acalls_of envOk Tryd.func88 rfl (by kernel_rfl) (m := 47) rfl ?_
  simp only [intss_length, ty54, T54, intss_length, sll, Kat_go, Kreg_go, Qseq_normal, aregL_nil, aregL_plain, awpL_region, awpL_seq, awpL_block, awpL_loop, aop_move, aop_assign, aop_len, apureCall, ev, cst, putT, rowLen, alen, kd, List.getD_cons_zero, List.getD_cons_succ, List.set_cons_zero, List.set_cons_succ, List.length_nil, List.map_cons, List.map_nil, List.cons_append, List.nil_append, List.reduceReplicate]
  refine ALoop.mk (fun m t H ds => ∃ (i : Nat) (hi lo : Int), m = l.length - i ∧ i ≤ l.length ∧ lo = psum (at2 l k) i % 18446744073709551616 ∧ hi = (psum (at2 l k) i / 18446744073709551616) % 18446744073709551616 ∧ t = [.d (.slice 1 (intss l)), .d (.int .i64 (k : Nat)), .dead, .dead, .d (.int .i64 0), .d (.bool false), .d (.int .u64 hi), .d (.int .u64 lo), .dead, .dead, .dead, .dead, .d (.slice 1 (intss l)), .d (.int .i64 l.length), .d (.int .i64 (i : Nat)), .dead, .dead, .dead, .dead, .dead, .dead, .dead, .dead, .dead, .dead, .dead, .dead, .dead, .dead, .dead, .dead, .dead, .dead, .dead, .dead, .dead, .dead, .dead, .dead, .dead, .dead, .dead, .dead, .dead, .dead, .dead, .dead, .dead, .dead] ∧ H = [] ∧ ds = []) l.length
    (WK.fgt (t' := [.d (.slice 1 (intss l)), .d (.int .i64 (k : Nat)), .dead, .dead, .d (.int .i64 0), .d (.bool false), .d (.int .u64 0), .d (.int .u64 0), .dead, .dead, .dead, .dead, .d (.slice 1 (intss l)), .d (.int .i64 l.length), .d (.int .i64 (0 : Nat)), .dead, .dead, .dead, .dead, .dead, .dead, .dead, .dead, .dead, .dead, .dead, .dead, .dead, .dead, .dead, .dead, .dead, .dead, .dead, .dead, .dead, .dead, .dead, .dead, .dead, .dead, .dead, .dead, .dead, .dead, .dead, .dead, .dead, .dead]) (by simp [fgt]) (WK.now ⟨0, 0, 0, by omega, by omega, by simp [psum], by simp [psum], rfl, rfl, rfl⟩)) ?_
  rintro m t H ds ⟨i, hi, lo, rfl, hil, hlo, hhi, rfl, rfl, rfl⟩
  simp only [ty3, T3, Int.ofNat_lt, Kat_go, Kreg_go, Qseq_normal, aregL_nil, aregL_plain, awpL_region, awpL_seq, awpL_cond, aop_binOp, ev, putT, aopBin, isSl, abin, aint, kd, List.getD_cons_zero, List.getD_cons_succ, List.set_cons_zero, List.set_cons_succ, true_and]
  refine Kbr.mk (fun c => ?_) (fun c => ?_)
  · have c2 : i < l.length := by simpa using c
    have hki := hk i c2
    have hv : I64 (at2 l k i) := rl i k
    obtain ⟨lo1, c1, h1, e1, e2⟩ : ∃ lo1 c1 : Int, add64A [.d (.int .u64 lo), .d (.int .u64 (IntKind.wrap .u64 (at2 l k i))), .d (.int .u64 0)] = some (.d (.tup [.int .u64 lo1, .int .u64 c1])) ∧ lo1 = (lo + at2 l k i % 18446744073709551616) % 18446744073709551616 ∧ c1 = (lo + at2 l k i % 18446744073709551616) / 18446744073709551616 :=
      ⟨_, _, add64_go (by rw [wrapu_eq]; omega), by rw [wrapu_eq]; omega, by rw [wrapu_eq]; omega⟩
    obtain ⟨hi1, c3, h2, e3, e4⟩ : ∃ hi1 c3 : Int, add64A [.d (.int .u64 hi), .d (.int .u64 (IntKind.wrap .u64 ((at2 l k i).fdiv (2 ^ 63)))), .d (.int .u64 c1)] = some (.d (.tup [.int .u64 hi1, .int .u64 c3])) ∧ hi1 = (hi + (at2 l k i / 9223372036854775808) % 18446744073709551616 + c1) % 18446744073709551616 ∧ c3 = c3 :=
      ⟨_, _, add64_go (by rw [wrapu_eq]; omega), by rw [fdiv63, wrapu_eq], rfl⟩
    have e0 : (l.getD i []).getD k 0 = at2 l k i := rfl
    simp only [c2, hki, cel_intss, cel_ints, e0, h1, h2, succ64 c2 (Nat.le_trans hl (by omega)), ints_length, intss_length, ty2, T2, ty3, T3, ty43, T43, ty54, T54, ty168, T168, ext103, Qloop_normal, IntKind.bits, bits63, ints_length, intss_length, Int.natCast_nonneg, Int.ofNat_lt, Kat_go, Kreg_go, Qseq_normal, Qblk_normal, aregL_nil, aregL_plain, awpL_skip, awpL_region, awpL_seq, awpL_block, aop_move, aop_assign, aop_load, aop_binOp, aop_convert, aop_indexAddr, aop_extract, aop_call, acallF_go, ev, cst, putT, aopBin, isSl, abin, aint, aconv, rowPtr, aidx, aext, aload, rdRow, ldK, kd, esz, List.getD_cons_zero, List.getD_cons_succ, List.set_cons_zero, List.set_cons_succ, List.getElem?_cons_zero, List.getElem?_cons_succ, List.map_cons, List.map_nil, List.append_nil, Nat.reduceLT, true_and, Int.reduceToNat, Int.toNat_natCast, Int.reduceLE, decide_true]
    unfold I64 at hv
    refine ⟨l.length - (i + 1), by omega, WK.fgt (t' := [.d (.slice 1 (intss l)), .d (.int .i64 (k : Nat)), .dead, .dead, .d (.int .i64 0), .d (.bool false), .d (.int .u64 hi1), .d (.int .u64 lo1), .dead, .dead, .dead, .dead, .d (.slice 1 (intss l)), .d (.int .i64 l.length), .d (.int .i64 (i + 1 : Nat)), .dead, .dead, .dead, .dead, .dead, .dead, .dead, .dead, .dead, .dead, .dead, .dead, .dead, .dead, .dead, .dead, .dead, .dead, .dead, .dead, .dead, .dead, .dead, .dead, .dead, .dead, .dead, .dead, .dead, .dead, .dead, .dead, .dead, .dead]) (by simp [fgt]) (WK.now ⟨i + 1, hi1, lo1, rfl, by omega, ?_, ?_, rfl, rfl, rfl⟩)⟩
    · simp only [psum]
      omega
    · simp only [psum]
      omega
  · have c2 : ¬ i < l.length := by simpa using c
    have hil' : i = l.length := by omega
    subst hil'
    simp only [ty2, T2, ty168, T168, Qloop_exit, IntKind.bits, bits63, Kat_go, Kreg_go, Qseq_normal, Qseq_exit, Qblk_exit, aret_ret, aregL_nil, aregL_plain, awpL_region, awpL_seq, awpL_exit, awpL_ret, aop_move, aop_assign, aop_binOp, aop_convert, ev, cst, putT, aopBin, isSl, abin, aint, aconv, kd, List.getD_cons_zero, List.getD_cons_succ, List.set_cons_zero, List.set_cons_succ, true_and, if_true, Int.reduceToNat, Int.reduceLE]
    refine WK.now ?_
    simp only [Tryd.results88, Kcons_go, Kone_go, Kfin_go, aresL_nil, aresL_tmp, allDefr_nil, offs_nil, mkTup, allD, one?, List.getD_cons_zero, List.getD_cons_succ, true_and, List.toList_toArray]
    have hb := psum_bound (at2 l k) (fun j => rl j k) l.length
    unfold Sz at hl
    have e1 : IntKind.wrap .i64 lo = IntKind.wrap .i64 (colS l k) := by
      rw [wrap_eq, wrap_eq, hlo]; unfold colS; omega
    rw [e1]
    have e2 : (hi == IntKind.wrap .u64 ((IntKind.wrap .i64 (colS l k)).fdiv (2 ^ 63))) = B (I64 (colS l k)) := by
      rw [Bool.eq_iff_iff, B_iff, beq_iff_eq, fdiv63, wrapu_eq, wrap_eq, hhi]
      unfold colS I64
      omega
    rw [e2]
def AddP (l : List (List Int)) : Prop := 0 < l.length ∧ (∀ j, j < l.length → (l.getD j []).length = (l.getD 0 []).length) ∧ ∀ k, k < (l.getD 0 []).length → I64 (colS l k)
noncomputable def addS (l : List (List Int)) : Option (List Int) := bif B (AddP l) then some ((List.range (l.getD 0 []).length).map (colS l)) else none
theorem addS_no {l : List (List Int)} (h : ¬ AddP l) : resS (addS l) = .tup [.nils, .bool false] := by rw [addS, B_false h]; rfl
theorem addS_yes {l : List (List Int)} (h : AddP l) : resS (addS l) = .tup [sl ((List.range (l.getD 0 []).length).map (colS l)), .bool true] := by rw [addS, B_true h]; rfl

theorem vadd_ok (l : List (List Int)) (hl : Sz l) (hs : ∀ j, Sz (l.getD j [])) (rl : InRs l) : PCall env 75 [sll l] (resS (addS l)) := by
  refine acalls_of envOk Tryd.func75 rfl (by kernel_rfl) (m := 39) rfl ?_
  simp only [intss_length, ty3, T3, ty54, T54, intss_length, sll, Kat_go, Kreg_go, Qseq_normal, aregL_nil, aregL_plain, aregL_guard, awpL_region, awpL_seq, aop_move, aop_assign, aop_load, aop_binOp, aop_box, aop_len, apureCall, ev, cst, putT, gval, aopBin, isSl, abin, aint, rowLen, alen, aload, ldK, kd, AV.cells, D.cells, abox, List.getD_cons_zero, List.getD_cons_succ, List.set_cons_zero, List.set_cons_succ, List.getElem?_cons_zero, List.getElem?_cons_succ, List.length_nil, List.map_cons, List.map_nil, List.cons_append, List.nil_append, List.reduceReplicate, Bool.not_false, true_and]
  refine Kbr.mk (fun c => ?_) (fun c => ?_)
  · have hn : l.length ≠ 0 := by simpa using c
    have h0 : 0 < l.length := by omega
    have hz : (0 : Int) < (l.length : Int) := by omega
    simp only [ty54, T54, ext86, Kat_go, Kreg_go, Kbr_true, Kgo_go, aregL_guard, aop_load, aop_makeFunc, aop_call, acallF_go, ev, putT, gval, aload, ldK, mkFunc, allD, List.getD_cons_zero, List.getD_cons_succ, List.set_cons_zero, List.set_cons_succ, List.getElem?_cons_zero, List.getElem?_cons_succ, List.map_cons, List.map_nil, List.append_nil, Bool.not_false, beq_self_eq_true, true_and]
    refine (contains_ok l h0 hl).thus (WK.now ?_)
    simp only [sll, Kat_go, Kreg_go, Qseq_normal, Vbr_false, aregL_nil, aregL_plain, awpL_cond, aop_pick, ev, cst, putT, List.getD_cons_zero, List.getD_cons_succ, List.set_cons_zero, List.set_cons_succ, ne_eq]
    refine Kbr.mk (fun c => ?_) (fun c => ?_)
    · obtain ⟨j, hj, hne⟩ := B_iff.1 c
      simp only [Kreg_go, Qseq_normal, Qseq_ret, aret_ret, aregL_nil, aregL_plain, awpL_region, awpL_seq, awpL_ret, aop_assign, ev, cst, putT, List.set_cons_zero, List.set_cons_succ]
      refine WK.now ?_
      simp only [Tryd.results75, Kcons_go, Kone_go, Kfin_go, aresL_nil, aresL_tmp, allDefr_nil, offs_nil, mkTup, allD, one?, List.getD_cons_zero, List.getD_cons_succ, true_and, List.toList_toArray]
      rw [addS_no (fun h => hne (h.2.1 j hj))]
    · have hu : ∀ j, j < l.length → (l.getD j []).length = (l.getD 0 []).length := fun j hj => by
        have := B_not.1 c
        exact Classical.byContradiction fun h => this ⟨j, hj, h⟩
      have hs0 := hs 0
      simp only [hz, h0, cel_intss, ints_length, intss_length, ty2, T2, ty43, T43, ty54, T54, ints_length, intss_length, Int.natCast_nonneg, Kat_go, Kreg_go, Qseq_normal, aregL_nil, aregL_plain, awpL_skip, awpL_region, awpL_seq, awpL_block, awpL_loop, aop_move, aop_assign, aop_load, aop_indexAddr, aop_makeSlice, aop_len, apureCall, ev, cst, putT, rowLen, alen, rowPtr, aidx, aload, rdRow, ldK, kd, esz, amake, List.getD_cons_zero, List.getD_cons_succ, List.set_cons_zero, List.set_cons_succ, List.getElem?_cons_zero, List.length_cons, List.length_nil, List.cons_append, List.nil_append, Nat.reduceLT, true_and, reduceCtorEq, ne_eq, not_false_eq_true, Nat.zero_add, Int.toNat_zero, Int.toNat_natCast, Int.reduceLE]
      refine ⟨room_of (Nat.le_trans hs0 (by omega)) (by omega), ?_⟩
      rw [rep_ints]
      refine ALoop.mk (fun k t H ds => ∃ (i : Nat) (out : List Int), k = (l.getD 0 []).length - i ∧ i ≤ (l.getD 0 []).length ∧ out.length = (l.getD 0 []).length ∧ (∀ j, j < i → I64 (colS l j) ∧ out.getD j 0 = colS l j) ∧ t = [.d (.slice 1 (intss l)), .pvar 0 0, .d .nils, .d (.bool false), .sfull 1, .dead, .dead, .dead, .dead, .dead, .dead, .dead, .dead, .dead, .dead, .dead, .dead, .dead, .dead, .dead, .dead, .dead, .d (.int .i64 (l.getD 0 []).length), .d (.int .i64 (i : Nat)), .dead, .dead, .dead, .dead, .dead, .dead, .dead, .dead, .dead, .dead, .dead, .dead, .dead, .dead, .dead, .dead] ∧ H = [.var [.d (.slice 1 (intss l))], .arr 2 1 (ints out)] ∧ ds = []) (l.getD 0 []).length
        (WK.fgt (t' := [.d (.slice 1 (intss l)), .pvar 0 0, .d .nils, .d (.bool false), .sfull 1, .dead, .dead, .dead, .dead, .dead, .dead, .dead, .dead, .dead, .dead, .dead, .dead, .dead, .dead, .dead, .dead, .dead, .d (.int .i64 (l.getD 0 []).length), .d (.int .i64 (0 : Nat)), .dead, .dead, .dead, .dead, .dead, .dead, .dead, .dead, .dead, .dead, .dead, .dead, .dead, .dead, .dead, .dead]) (by simp [fgt, ints_length]) (WK.now ⟨0, _, by omega, by omega, by simp, by omega, rfl, rfl, rfl⟩)) ?_
      rintro k t H ds ⟨i, out, rfl, hi, ho, hp, rfl, rfl, rfl⟩
      simp only [ty3, T3, Int.ofNat_lt, Kat_go, Kreg_go, Qseq_normal, aregL_nil, aregL_plain, awpL_region, awpL_seq, awpL_cond, aop_binOp, ev, putT, aopBin, isSl, abin, aint, kd, List.getD_cons_zero, List.getD_cons_succ, List.set_cons_zero, List.set_cons_succ, true_and]
      refine Kbr.mk (fun c => ?_) (fun c => ?_)
      · have c2 : i < (l.getD 0 []).length := by simpa using c
        simp only [ty54, T54, ext88, Kat_go, Kreg_go, Qseq_normal, aregL_nil, aregL_plain, awpL_skip, awpL_region, awpL_seq, awpL_block, aop_move, aop_assign, aop_load, aop_call, acallF_go, ev, putT, aload, ldK, List.getD_cons_zero, List.getD_cons_succ, List.set_cons_zero, List.set_cons_succ, List.getElem?_cons_zero, List.map_cons, List.map_nil, List.append_nil]
        refine (sum_ok l i hl rl (fun j hj => by rw [hu j hj]; exact c2)).go (by first | exact ⟨.inl rfl, trivial⟩ | exact ⟨.inl rfl, .inl rfl, trivial⟩ | exact ⟨.inl rfl, .inl rfl, .inl rfl, trivial⟩ | simp [argsOk, argOk, sl, sll]) (WK.now ?_)
        simp only [Kat_go, Kreg_go, Qseq_normal, aregL_nil, aregL_plain, awpL_region, awpL_seq, awpL_cond, aop_move, aop_assign, aop_unOp, aop_extract, ev, putT, aun, aext, List.getD_cons_zero, List.getD_cons_succ, List.set_cons_zero, List.set_cons_succ, List.getElem?_cons_zero, List.getElem?_cons_succ]
        refine Kbr.mk (fun c => ?_) (fun c => ?_)
        · have c4 : ¬ I64 (colS l i) := B_not.1 (by simpa using c)
          simp only [Qloop_ret, Kreg_go, Qseq_normal, Qseq_ret, Qblk_ret, aret_ret, aregL_nil, aregL_plain, awpL_region, awpL_seq, awpL_ret, aop_assign, ev, cst, putT, List.set_cons_zero, List.set_cons_succ]
          refine WK.now ?_
          simp only [Tryd.results75, Kcons_go, Kone_go, Kfin_go, aresL_nil, aresL_tmp, allDefr_nil, offs_nil, mkTup, allD, one?, List.getD_cons_zero, List.getD_cons_succ, true_and, List.toList_toArray]
          rw [addS_no (fun h => c4 (h.2.2 i c2))]
        · have c4 : I64 (colS l i) := B_iff.1 (by simpa using c)
          have e4 := wrapi c4.1 c4.2
          simp only [e4, ho, c2, upd_ints, succ64 c2 (Nat.le_trans hs0 (by omega)), ints_length, ty2, T2, ty3, T3, ty43, T43, Qloop_normal, ints_length, Int.natCast_nonneg, Int.ofNat_lt, Kat_go, Kst_go, Kreg_go, Qseq_normal, Qblk_normal, aregL_nil, aregL_plain, awpL_skip, awpL_region, aop_move, aop_binOp, aop_indexAddr, aop_store, ev, cst, putT, aopBin, isSl, abin, aint, rowPtr, aidx, kd, esz, D.cells, astore, List.getD_cons_zero, List.getD_cons_succ, List.set_cons_zero, List.set_cons_succ, List.length_cons, List.length_nil, Nat.reduceLeDiff, true_and, Nat.zero_add, Int.toNat_natCast, decide_true]
          refine ⟨(l.getD 0 []).length - (i + 1), by omega, WK.fgt (t' := [.d (.slice 1 (intss l)), .pvar 0 0, .d .nils, .d (.bool false), .sfull 1, .dead, .dead, .dead, .dead, .dead, .dead, .dead, .dead, .dead, .dead, .dead, .dead, .dead, .dead, .dead, .dead, .dead, .d (.int .i64 (l.getD 0 []).length), .d (.int .i64 (i + 1 : Nat)), .dead, .dead, .dead, .dead, .dead, .dead, .dead, .dead, .dead, .dead, .dead, .dead, .dead, .dead, .dead, .dead]) (by simp [fgt]) (WK.now ⟨i + 1, _, rfl, by omega, by simp [ho], fun j hj => ?_, rfl, rfl, rfl⟩)⟩
          rcases Nat.lt_succ_iff_lt_or_eq.1 hj with hj | rfl
          · have hne : i ≠ j := by omega
            simpa [List.getD_eq_getElem?_getD, List.getElem?_set_ne hne] using hp j hj
          · refine ⟨c4, ?_⟩
            rw [List.getD_eq_getElem?_getD, List.getElem?_set_self (by omega)]; rfl
      · have c2 : ¬ i < (l.getD 0 []).length := by simpa using c
        simp only [Qloop_exit, Kreg_go, Qseq_normal, Qseq_exit, Qblk_exit, aret_ret, aregL_nil, aregL_plain, awpL_region, awpL_seq, awpL_exit, awpL_ret, aop_move, aop_assign, ev, cst, putT, List.getD_cons_zero, List.getD_cons_succ, List.set_cons_zero, List.set_cons_succ, if_true]
        refine WK.frz 1 rfl (WK.now ?_)
        simp only [Tryd.results75, AV.frzL, AV.frz, AObj.frz, Kcons_go, Kone_go, Kfin_go, aresL_nil, aresL_tmp, allDefr_nil, offs_nil, mkTup, allD, one?, List.getD_cons_zero, List.getD_cons_succ, List.set_cons_zero, List.set_cons_succ, List.map_cons, List.map_nil, true_and, if_true, List.toList_toArray]
        have e : out = (List.range (l.getD 0 []).length).map (colS l) := List.ext_getElem (by simp [ho]) fun j h1 h2 => by
          have := (hp j (by omega)).2
          simpa [List.getD_eq_getElem?_getD, h1] using this
        rw [addS_yes ⟨h0, hu, fun k hk => (hp k (by omega)).1⟩, e]
        rfl
  · have hn : l.length = 0 := by simpa using c
    simp only [Kat_go, Kreg_go, Qseq_normal, Qseq_ret, Kbr_true, Kbr_false, Vbr_true, Kno_go, aret_ret, aregL_nil, aregL_plain, aregL_guard, awpL_region, awpL_seq, awpL_cond, awpL_ret, aop_assign, aop_pick, ev, cst, putT, gval, List.getD_cons_zero, List.getD_cons_succ, List.set_cons_zero, List.set_cons_succ, List.getElem?_cons_zero, List.getElem?_cons_succ, Bool.not_false, Bool.true_beq]
    refine WK.now ?_
    simp only [Tryd.results75, Kcons_go, Kone_go, Kfin_go, aresL_nil, aresL_tmp, allDefr_nil, offs_nil, mkTup, allD, one?, List.getD_cons_zero, List.getD_cons_succ, true_and, List.toList_toArray]
    rw [addS_no (fun h => by have := h.1; omega)]

end Go.Proofs.YtjljjakfebfpfaaDoor
