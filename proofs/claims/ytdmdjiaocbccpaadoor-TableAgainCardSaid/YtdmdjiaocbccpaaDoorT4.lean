/-
  The walks of the comparisons of rows, and of the reference implementation's list of pairs.
-/
import Derived.Test.YtdmdjiaocbccpaaDoorT3
set_option autoImplicit false
set_option linter.unusedVariables false
set_option linter.unusedSimpArgs false
namespace Go.Proofs.YtdmdjiaocbccpaaDoor
open Go.Abs

def Sz {α : Type} (xs : List α) : Prop := xs.length ≤ 1000000

theorem equal_ok (a b : List Int) (ha : Sz a) : PCall env 16 [sl a, sl b] (.bool (B (a = b))) := by
  refine acalls_of envOk Tryd.func16 rfl (by kernel_rfl) (m := 24) rfl ?_
  simp only [ty45, T45, ints_length, sl, Kat_go, Kreg_go, Qseq_normal, aregL_nil, aregL_plain, awpL_region, awpL_seq, awpL_cond, aop_move, aop_assign, aop_binOp, aop_len, apureCall, ev, cst, putT, abin, aint, rowLen, alen, kd, List.getD_cons_zero, List.getD_cons_succ, List.set_cons_zero, List.set_cons_succ, List.length_nil, List.map_cons, List.map_nil, List.cons_append, List.nil_append, List.reduceReplicate, true_and]
  refine Kbr.mk (fun c => ?_) (fun c => ?_)
  · have c1 : a.length ≠ b.length := by simpa [Int.ofNat_inj] using c
    simp only [Kreg_go, Qseq_normal, Qseq_ret, aret_ret, aregL_nil, aregL_plain, awpL_region, awpL_seq, awpL_ret, aop_assign, ev, cst, putT, List.set_cons_zero, List.set_cons_succ]
    refine WK.now ?_
    simp only [Tryd.results16, Kcons_go, Kone_go, Kfin_go, aresL_nil, aresL_tmp, allDefr_nil, offs_nil, one?, List.getD_cons_zero, List.getD_cons_succ, true_and, List.toList_toArray]
    rw [B_false (fun h => c1 (by rw [h]))]
  · have c1 : a.length = b.length := by simpa [Int.ofNat_inj] using c
    simp only [ty45, T45, ints_length, Kat_go, Kreg_go, Qseq_normal, aregL_nil, aregL_plain, awpL_skip, awpL_region, awpL_seq, awpL_block, awpL_loop, aop_move, aop_len, apureCall, ev, cst, putT, rowLen, alen, kd, List.getD_cons_zero, List.getD_cons_succ, List.set_cons_zero, List.set_cons_succ]
    refine ALoop.mk (fun k t H ds => ∃ i : Nat, k = a.length - i ∧ i ≤ a.length ∧ (∀ j, j < i → a.getD j 0 = b.getD j 0) ∧ t = [.d (.slice 1 (ints a)), .d (.slice 1 (ints b)), .dead, .dead, .d (.bool false), .dead, .dead, .dead, .dead, .dead, .dead, .dead, .d (.int .i64 a.length), .d (.int .i64 (i : Nat)), .dead, .dead, .dead, .dead, .dead, .dead, .dead, .dead, .dead, .dead, .dead, .dead] ∧ H = [] ∧ ds = []) a.length
      (WK.fgt (t' := [.d (.slice 1 (ints a)), .d (.slice 1 (ints b)), .dead, .dead, .d (.bool false), .dead, .dead, .dead, .dead, .dead, .dead, .dead, .d (.int .i64 a.length), .d (.int .i64 (0 : Nat)), .dead, .dead, .dead, .dead, .dead, .dead, .dead, .dead, .dead, .dead, .dead, .dead]) (by simp [fgt]) (WK.now ⟨0, by omega, by omega, by omega, rfl, rfl, rfl⟩)) ?_
    rintro k t H ds ⟨i, rfl, hi, hp, rfl, rfl, rfl⟩
    simp only [Int.ofNat_lt, Kat_go, Kreg_go, Qseq_normal, aregL_nil, aregL_plain, awpL_region, awpL_seq, awpL_cond, aop_binOp, ev, putT, abin, aint, List.getD_cons_zero, List.getD_cons_succ, List.set_cons_zero, List.set_cons_succ, true_and]
    refine Kbr.mk (fun c => ?_) (fun c => ?_)
    · have c2 : i < a.length := by simpa using c
      have c3 : i < b.length := by omega
      simp only [c2, Kreg_go, Qseq_normal, aregL_nil, aregL_plain, awpL_skip, awpL_region, awpL_draw, awpL_seq, awpL_block, aop_move, aop_assign, ev, putT, List.getD_cons_zero, List.getD_cons_succ, List.set_cons_zero, List.set_cons_succ, decide_true]
      refine DRegL.one (by unfold DrawOK; kernel_rfl) ?_
      simp only [c2, c3, cel_ints, ty3, T3, ty45, T45, ints_length, Int.natCast_nonneg, Int.ofNat_lt, Kdr_go, Qseq_normal, aregL_nil, adrawL_nil, adrawL_plain, awpL_cond, qop_move, qop_load, qop_binOp, qop_indexAddr, ev, putT, abin, aint, rowPtr, aidx, aload, rdRow, ldK, kd, esz, isEff, qpre, qtail, List.getD_cons_zero, List.getD_cons_succ, List.set_cons_zero, List.set_cons_succ, Nat.reduceLT, true_and, Int.toNat_natCast]
      refine Kbr.mk (fun c => ?_) (fun c => ?_)
      · have c4 : a.getD i 0 ≠ b.getD i 0 := by simpa using c
        simp only [Qloop_ret, Kreg_go, Qseq_normal, Qseq_ret, Qblk_ret, aret_ret, aregL_nil, aregL_plain, awpL_region, awpL_seq, awpL_ret, aop_assign, ev, cst, putT, List.set_cons_zero, List.set_cons_succ]
        refine WK.now ?_
        simp only [Tryd.results16, Kcons_go, Kone_go, Kfin_go, aresL_nil, aresL_tmp, allDefr_nil, offs_nil, one?, List.getD_cons_zero, List.getD_cons_succ, true_and, List.toList_toArray]
        rw [B_false (fun h => c4 (by rw [h]))]
      · have c4 : a.getD i 0 = b.getD i 0 := by simpa using c
        simp only [succ64 c2 (Nat.le_trans ha (by omega)), Qloop_normal, Kat_go, Kreg_go, Qseq_normal, Qblk_normal, aregL_nil, aregL_plain, awpL_skip, awpL_region, aop_move, aop_binOp, ev, cst, putT, abin, aint, List.getD_cons_zero, List.getD_cons_succ, List.set_cons_zero, List.set_cons_succ, true_and]
        refine ⟨a.length - (i + 1), by omega, WK.fgt (t' := [.d (.slice 1 (ints a)), .d (.slice 1 (ints b)), .dead, .dead, .d (.bool false), .dead, .dead, .dead, .dead, .dead, .dead, .dead, .d (.int .i64 a.length), .d (.int .i64 (i + 1 : Nat)), .dead, .dead, .dead, .dead, .dead, .dead, .dead, .dead, .dead, .dead, .dead, .dead]) (by simp [fgt]) (WK.now ⟨i + 1, rfl, by omega, fun j hj => ?_, rfl, rfl, rfl⟩)⟩
        rcases Nat.lt_succ_iff_lt_or_eq.1 hj with hj | rfl
        · exact hp j hj
        · exact c4
    · have c2 : ¬ i < a.length := by simpa using c
      simp only [Qloop_exit, Kreg_go, Qseq_normal, Qseq_exit, Qblk_exit, aret_ret, aregL_nil, aregL_plain, awpL_region, awpL_seq, awpL_exit, awpL_ret, aop_assign, ev, cst, putT, List.set_cons_zero, List.set_cons_succ, if_true]
      refine WK.now ?_
      simp only [Tryd.results16, Kcons_go, Kone_go, Kfin_go, aresL_nil, aresL_tmp, allDefr_nil, offs_nil, one?, List.getD_cons_zero, List.getD_cons_succ, true_and, List.toList_toArray]
      have e : a = b := List.ext_getElem c1 fun j h1 h2 => by
        have := hp j (by omega)
        simpa [List.getD_eq_getElem?_getD, h1, h2] using this
      rw [B_true e]

theorem isNaN_ok (n : Int) : PCall env 41 [.int .i64 n] (.bool false) := by
  refine acalls_of envOk Tryd.func41 rfl (by kernel_rfl) (m := 5) rfl ?_
  simp only [Kat_go, Kreg_go, Qseq_normal, aret_ret, aregL_nil, aregL_plain, awpL_region, awpL_seq, awpL_ret, aop_move, aop_assign, aop_binOp, ev, cst, putT, abin, aint, List.getD_cons_zero, List.getD_cons_succ, List.set_cons_zero, List.set_cons_succ, List.length_nil, List.map_cons, List.map_nil, List.cons_append, List.nil_append, List.reduceReplicate, bne_self_eq_false, true_and]
  refine WK.now ?_
  simp only [Tryd.results41, Kcons_go, Kone_go, Kfin_go, aresL_nil, aresL_tmp, allDefr_nil, offs_nil, one?, List.getD_cons_zero, List.getD_cons_succ, and_self, List.toList_toArray]
theorem less_ok (a b : Int) : PCall env 36 [.int .i64 a, .int .i64 b] (.bool (decide (a < b))) := by
  refine acalls_of envOk Tryd.func36 rfl (by kernel_rfl) (m := 15) rfl ?_
  simp only [ext41, Kreg_go, Qseq_normal, aregL_nil, aregL_plain, awpL_region, awpL_seq, aop_move, aop_assign, aop_call, acallF_go, ev, cst, putT, List.getD_cons_zero, List.getD_cons_succ, List.set_cons_zero, List.set_cons_succ, List.length_nil, List.map_cons, List.map_nil, List.cons_append, List.nil_append, List.append_nil, List.reduceReplicate]
  refine (isNaN_ok a).go (by first | exact ⟨.inl rfl, trivial⟩ | exact ⟨.inl rfl, .inl rfl, trivial⟩ | exact ⟨.inl rfl, .inl rfl, .inl rfl, trivial⟩ | simp [argsOk, argOk, sl, sll]) (WK.now ?_)
  simp only [Kat_go, Kreg_go, Qseq_normal, Kbr_true, Kbr_false, Vbr_false, Kgo_go, Kno_go, aret_ret, aregL_nil, aregL_plain, aregL_guard, awpL_ret, aop_move, aop_assign, aop_pick, aop_binOp, ev, cst, putT, gval, abin, aint, List.getD_cons_zero, List.getD_cons_succ, List.set_cons_zero, List.set_cons_succ, List.getElem?_cons_zero, List.getElem?_cons_succ, Bool.not_true, Bool.not_false, beq_self_eq_true, true_and, Bool.false_beq]
  refine WK.now ?_
  simp only [Tryd.results36, Kcons_go, Kone_go, Kfin_go, aresL_nil, aresL_tmp, allDefr_nil, offs_nil, one?, List.getD_cons_zero, List.getD_cons_succ, and_self, List.toList_toArray]

def pr (p : Int × Int) : List D := [.int .i64 p.1, .int .i64 p.2]
def prs (l : List (Int × Int)) : List (List D) := l.map pr
def spr (l : List (Int × Int)) : D := .slice 2 (prs l)
theorem prs_length (l : List (Int × Int)) : (prs l).length = l.length := by simp [prs]
theorem prs_get {l : List (Int × Int)} {i : Nat} (h : i < l.length) : (prs l).getD i [] = pr (l.getD i (0, 0)) := by simp [prs, List.getD_eq_getElem?_getD, h]
theorem cel_prs0 {l : List (Int × Int)} {i : Nat} (h : i < l.length) : cel (prs l) i 0 = .int .i64 (l.getD i (0, 0)).1 := by unfold cel; rw [prs_get h]; rfl
theorem cel_prs1 {l : List (Int × Int)} {i : Nat} (h : i < l.length) : cel (prs l) i 1 = .int .i64 (l.getD i (0, 0)).2 := by unfold cel; rw [prs_get h]; rfl
theorem seg_prs {l : List (Int × Int)} {i : Nat} (h : i < l.length) : seg (prs l) i 0 2 = [.int .i64 (l.getD i (0, 0)).1, .int .i64 (l.getD i (0, 0)).2] := by unfold seg; rw [prs_get h]; rfl
theorem prs_app (x y : List (Int × Int)) : prs x ++ prs y = prs (x ++ y) := by simp [prs]
theorem prs_nil : prs [] = [] := rfl
theorem prs_one (a b : Int) : [[D.int .i64 a, D.int .i64 b]] = prs [(a, b)] := rfl

/-- The place of a pair. -/
def rfind (l : List (Int × Int)) (k : Int) : Int := match l.findIdx? (fun p => k == p.1) with
  | some i => (i : Int)
  | none => -1
theorem find_ok (l : List (Int × Int)) (k : Int) (hl : Sz l) : PCall env 24 [spr l, .int .i64 k] (.int .i64 (rfind l k)) := by
  unfold spr
  refine acalls_of envOk Tryd.func24 rfl (by kernel_rfl) (m := 18) rfl ?_
  simp only [Kreg_go, Qseq_normal, aregL_nil, aregL_plain, awpL_region, awpL_seq, awpL_block, awpL_loop, aop_assign, ev, cst, putT, List.set_cons_zero, List.set_cons_succ, List.length_nil, List.map_cons, List.map_nil, List.cons_append, List.nil_append, List.reduceReplicate, Int.reduceNeg]
  refine ALoop.mk (fun n t H ds => ∃ i : Nat, n = l.length - i ∧ i ≤ l.length ∧ (∀ j, j < i → (l.getD j (0, 0)).1 ≠ k) ∧ t = [.d (.slice 2 (prs l)), .d (.int .i64 k), .dead, .dead, .d (.int .i64 0), .d (.int .i64 (i : Nat)), .dead, .dead, .dead, .dead, .dead, .dead, .dead, .dead, .dead, .dead, .dead, .dead, .dead, .dead] ∧ H = [] ∧ ds = []) l.length
      (WK.fgt (t' := [.d (.slice 2 (prs l)), .d (.int .i64 k), .dead, .dead, .d (.int .i64 0), .d (.int .i64 (0 : Nat)), .dead, .dead, .dead, .dead, .dead, .dead, .dead, .dead, .dead, .dead, .dead, .dead, .dead, .dead]) (by simp [fgt]) (WK.now ⟨0, by omega, by omega, by omega, rfl, rfl, rfl⟩)) ?_
  rintro n t H ds ⟨i, rfl, hi, hp, rfl, rfl, rfl⟩
  simp only [prs_length, ty37, T37, Int.ofNat_lt, Kat_go, Kreg_go, Qseq_normal, aregL_nil, aregL_plain, awpL_region, awpL_seq, awpL_cond, aop_move, aop_binOp, aop_len, apureCall, ev, putT, abin, aint, rowLen, alen, kd, List.getD_cons_zero, List.getD_cons_succ, List.set_cons_zero, List.set_cons_succ, true_and, ne_eq, Int.reduceNeg]
  refine Kbr.mk (fun c => ?_) (fun c => ?_)
  · have c2 : i < l.length := by simpa using c
    simp only [prs_length, c2, cel_prs0, ty3, T3, ty41, T41, ty37, T37, Int.natCast_nonneg, Int.ofNat_lt, Kat_go, Kreg_go, Qseq_normal, aregL_nil, aregL_plain, awpL_skip, awpL_region, awpL_seq, awpL_cond, awpL_block, aop_move, aop_load, aop_binOp, aop_fieldAddr, aop_indexAddr, ev, putT, abin, aint, rowPtr, aidx, fld, afldAddr, aload, rdRow, ldK, kd, esz, List.getD_cons_zero, List.getD_cons_succ, List.set_cons_zero, List.set_cons_succ, List.getElem?_cons_zero, Nat.reduceLT, true_and, reduceCtorEq, ne_eq, not_false_eq_true, Nat.add_zero, Int.toNat_natCast, Int.reduceNeg, decide_true]
    refine Kbr.mk (fun c => ?_) (fun c => ?_)
    · have c4 : (l.getD i (0, 0)).1 = k := by simpa using c
      simp only [Qloop_ret, Kreg_go, Qseq_normal, Qseq_ret, Qblk_ret, aret_ret, aregL_nil, aregL_plain, awpL_region, awpL_seq, awpL_ret, aop_move, aop_assign, ev, putT, List.getD_cons_zero, List.getD_cons_succ, List.set_cons_zero, List.set_cons_succ, Int.reduceNeg]
      refine WK.now ?_
      simp only [Tryd.results24, Kcons_go, Kone_go, Kfin_go, aresL_nil, aresL_tmp, allDefr_nil, offs_nil, one?, List.getD_cons_zero, List.getD_cons_succ, true_and, List.toList_toArray]
      have : l.findIdx? (fun p => k == p.1) = some i := by
        rw [List.findIdx?_eq_some_iff_getElem]
        refine ⟨c2, by simpa [List.getD_eq_getElem?_getD, c2] using c4.symm, fun j hj => ?_⟩
        have := hp j hj
        simp [List.getD_eq_getElem?_getD, show j < l.length by omega] at this
        simpa using fun e => this e.symm
      rw [rfind, this]
    · have c4 : (l.getD i (0, 0)).1 ≠ k := by simpa using c
      simp only [succ64 c2 (Nat.le_trans hl (by omega)), Qloop_normal, Kat_go, Kreg_go, Qseq_normal, Qblk_normal, aregL_nil, aregL_plain, awpL_skip, awpL_region, aop_move, aop_assign, aop_binOp, ev, cst, putT, abin, aint, List.getD_cons_zero, List.getD_cons_succ, List.set_cons_zero, List.set_cons_succ, true_and, Int.reduceNeg]
      refine ⟨l.length - (i + 1), by omega, WK.fgt (t' := [.d (.slice 2 (prs l)), .d (.int .i64 k), .dead, .dead, .d (.int .i64 0), .d (.int .i64 (i + 1 : Nat)), .dead, .dead, .dead, .dead, .dead, .dead, .dead, .dead, .dead, .dead, .dead, .dead, .dead, .dead]) (by simp [fgt]) (WK.now ⟨i + 1, rfl, by omega, fun j hj => ?_, rfl, rfl, rfl⟩)⟩
      rcases Nat.lt_succ_iff_lt_or_eq.1 hj with hj | rfl
      · exact hp j hj
      · exact c4
  · have c2 : ¬ i < l.length := by simpa using c
    simp only [Qloop_exit, Kreg_go, Qseq_normal, Qseq_exit, Qblk_exit, aret_ret, aregL_nil, aregL_plain, awpL_region, awpL_seq, awpL_exit, awpL_ret, aop_assign, ev, cst, putT, List.set_cons_zero, List.set_cons_succ, if_true, Int.reduceNeg]
    refine WK.now ?_
    simp only [Tryd.results24, Kcons_go, Kone_go, Kfin_go, aresL_nil, aresL_tmp, allDefr_nil, offs_nil, one?, List.getD_cons_zero, List.getD_cons_succ, true_and, Int.reduceNeg, List.toList_toArray]
    have : l.findIdx? (fun p => k == p.1) = none := by
      rw [List.findIdx?_eq_none_iff]
      intro p hp'
      obtain ⟨j, hj⟩ := List.mem_iff_getElem?.1 hp'
      have hjl := (List.getElem?_eq_some_iff.1 hj).1
      have := hp j (by omega)
      rw [List.getD_eq_getElem?_getD, hj] at this
      simpa using fun e => this e.symm
    rw [rfind, this]

theorem rids_ok (l : List (Int × Int)) (hl : Sz l) : PCall env 18 [spr l] (sl (l.map (·.1))) := by
  unfold spr
  refine acalls_of envOk Tryd.func18 rfl (by kernel_rfl) (m := 19) rfl ?_
  simp only [sl, Kreg_go, Qseq_normal, aregL_nil, aregL_plain, awpL_region, awpL_seq, awpL_block, awpL_loop, aop_assign, ev, cst, putT, List.set_cons_zero, List.set_cons_succ, List.length_nil, List.map_cons, List.map_nil, List.cons_append, List.nil_append, List.reduceReplicate]
  refine ALoop.mk (fun n t H ds => ∃ i : Nat, n = l.length - i ∧ i ≤ l.length ∧ t = [.d (.slice 2 (prs l)), .dead, .d .nils, .sfull 0, .d (.int .i64 (i : Nat)), .dead, .dead, .dead, .dead, .dead, .dead, .dead, .dead, .dead, .dead, .dead, .dead, .dead, .dead, .dead] ∧ H = [.arr 3 1 (ints ((l.map (·.1)).take i))] ∧ ds = []) l.length
      (WK.nil 3 3 1 rfl (WK.fgt (t' := [.d (.slice 2 (prs l)), .dead, .d .nils, .sfull 0, .d (.int .i64 (0 : Nat)), .dead, .dead, .dead, .dead, .dead, .dead, .dead, .dead, .dead, .dead, .dead, .dead, .dead, .dead, .dead]) (by simp [fgt]) (WK.now ⟨0, by omega, by omega, rfl, by simp [ints], rfl⟩))) ?_
  rintro n t H ds ⟨i, rfl, hi, rfl, rfl, rfl⟩
  simp only [prs_length, ty37, T37, Int.ofNat_lt, Kat_go, Kreg_go, Qseq_normal, aregL_nil, aregL_plain, awpL_region, awpL_seq, awpL_cond, aop_move, aop_binOp, aop_len, apureCall, ev, putT, abin, aint, rowLen, alen, kd, List.getD_cons_zero, List.getD_cons_succ, List.set_cons_zero, List.set_cons_succ, true_and]
  refine Kbr.mk (fun c => ?_) (fun c => ?_)
  · have c2 : i < l.length := by simpa using c
    have ht : (List.take (i + 1) (l.map (·.1))) = List.take i (l.map (·.1)) ++ [(l.getD i (0, 0)).1] := by
      rw [List.take_add_one]
      simp [List.getD_eq_getElem?_getD, c2]
    simp only [prs_length, c2, cel_prs0, succ64 c2 (Nat.le_trans hl (by omega)), ty3, T3, ty41, T41, ty45, T45, ty37, T37, Qloop_normal, ints_length, Int.natCast_nonneg, Int.ofNat_lt, Kat_go, Kreg_go, Qseq_normal, Qblk_normal, Kapp_sfull, aregL_nil, aregL_plain, awpL_skip, awpL_region, awpL_seq, awpL_block, aop_move, aop_assign, aop_load, aop_binOp, aop_fieldAddr, aop_indexAddr, aop_buildSlice, aop_append, aapp_go, ev, cst, putT, abin, aint, rowPtr, aidx, fld, afldAddr, aload, rdRow, ldK, kd, esz, afill, splice, AV.cells, D.cells, allD, abuildS, AV.low, rep, chunk, srcRows, List.getD_cons_zero, List.getD_cons_succ, List.set_cons_zero, List.set_cons_succ, List.getElem?_cons_zero, List.length_cons, List.length_nil, List.map_cons, List.map_nil, List.cons_append, List.nil_append, List.append_nil, List.take_succ_cons, List.take_zero, List.take_nil, List.drop_succ_cons, List.drop_nil, Nat.reduceLeDiff, Nat.reduceLT, true_and, if_true, reduceCtorEq, ne_eq, not_false_eq_true, Nat.zero_add, Nat.add_zero, Int.toNat_natCast, Nat.mul_one, and_self, decide_true]
    have hlen : (l.map (·.1)).length = l.length := by simp
    refine ⟨room_of (by simp; unfold Sz at hl; omega) (by omega), l.length - (i + 1), by omega, WK.pick [1] (t' := [.d (.slice 2 (prs l)), .dead, .d .nils, .sfull 0, .d (.int .i64 (i + 1 : Nat)), .dead, .dead, .dead, .dead, .dead, .dead, .dead, .dead, .dead, .dead, .dead, .dead, .dead, .dead, .dead]) (H' := [.arr 3 1 (ints ((l.map (·.1)).take i ++ [(l.getD i (0, 0)).1]))]) (by simp [ints, sbl, ren_arr, bel_arr]) (by simp) (by simp) (by simp [tellL, AV.ren, AV.bel, rn]) (fun id h => absurd h (by omega)) (WK.now ⟨i + 1, rfl, by omega, rfl, by rw [ht], rfl⟩)⟩
  · have c2 : i = l.length := by have : ¬ i < l.length := by simpa using c
                                 omega
    simp only [Qloop_exit, Kreg_go, Qseq_normal, Qseq_exit, Qblk_exit, aret_ret, aregL_nil, aregL_plain, awpL_region, awpL_seq, awpL_exit, awpL_ret, aop_move, aop_assign, ev, putT, List.getD_cons_zero, List.getD_cons_succ, List.set_cons_zero, List.set_cons_succ, if_true]
    refine WK.frz 0 rfl (WK.now ?_)
    simp only [Tryd.results18, AV.frzL, AV.frz, AObj.frz, Kcons_go, Kone_go, Kfin_go, aresL_nil, aresL_tmp, allDefr_nil, offs_nil, one?, List.getD_cons_zero, List.getD_cons_succ, List.set_cons_zero, List.map_cons, List.map_nil, true_and, if_true, List.toList_toArray]
    subst c2
    have : List.take l.length (l.map (·.1)) = l.map (·.1) := by rw [List.take_of_length_le (by simp)]
    rw [this]
end Go.Proofs.YtdmdjiaocbccpaaDoor
