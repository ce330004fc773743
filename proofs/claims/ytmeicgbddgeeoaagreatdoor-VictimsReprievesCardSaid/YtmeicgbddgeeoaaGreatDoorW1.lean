/-
  The library's stable sort at pods: rows of pods that change places.
  The library's stable sort at pods: turning a row, and sorting by insertion.
  The library's stable sort at pods: merging in place, where one side is a single pod.
  The library's stable sort at pods: merging in place; the whole sort.
  The library's stable sort at pods: the whole.
-/
import Derived.Test.YtmeicgbddgeeoaaGreatDoorB3
import Derived.Test.YtmeicgbddgeeoaaGreatDoorA1
section
set_option autoImplicit false
set_option linter.unusedVariables false
set_option linter.unusedSimpArgs false
namespace Go.Proofs.YtmeicgbddgeeoaaGreatDoor
open Go.Abs
abbrev _root_.Go.Abs.xs110 : List AV := .x :: xs109
abbrev _root_.Go.Abs.xs111 : List AV := .x :: xs110
abbrev _root_.Go.Abs.xs112 : List AV := .x :: xs111
abbrev _root_.Go.Abs.xs113 : List AV := .x :: xs112
abbrev _root_.Go.Abs.xs114 : List AV := .x :: xs113
abbrev _root_.Go.Abs.xs115 : List AV := .x :: xs114
abbrev _root_.Go.Abs.xs116 : List AV := .x :: xs115
abbrev _root_.Go.Abs.xs117 : List AV := .x :: xs116
abbrev _root_.Go.Abs.xs118 : List AV := .x :: xs117
abbrev _root_.Go.Abs.xs119 : List AV := .x :: xs118
abbrev _root_.Go.Abs.xs120 : List AV := .x :: xs119
abbrev _root_.Go.Abs.xs121 : List AV := .x :: xs120
abbrev _root_.Go.Abs.xs122 : List AV := .x :: xs121
abbrev _root_.Go.Abs.xs123 : List AV := .x :: xs122
abbrev _root_.Go.Abs.xs124 : List AV := .x :: xs123
abbrev _root_.Go.Abs.xs125 : List AV := .x :: xs124
abbrev _root_.Go.Abs.xs126 : List AV := .x :: xs125
abbrev _root_.Go.Abs.xs127 : List AV := .x :: xs126
abbrev _root_.Go.Abs.xs128 : List AV := .x :: xs127
abbrev _root_.Go.Abs.xs129 : List AV := .x :: xs128
abbrev _root_.Go.Abs.xs130 : List AV := .x :: xs129
abbrev _root_.Go.Abs.xs131 : List AV := .x :: xs130
abbrev _root_.Go.Abs.xs132 : List AV := .x :: xs131
abbrev _root_.Go.Abs.xs133 : List AV := .x :: xs132
abbrev _root_.Go.Abs.xs134 : List AV := .x :: xs133
abbrev _root_.Go.Abs.xs135 : List AV := .x :: xs134
abbrev _root_.Go.Abs.xs136 : List AV := .x :: xs135
abbrev _root_.Go.Abs.xs137 : List AV := .x :: xs136
abbrev _root_.Go.Abs.xs138 : List AV := .x :: xs137
abbrev _root_.Go.Abs.xs139 : List AV := .x :: xs138
abbrev _root_.Go.Abs.xs140 : List AV := .x :: xs139
abbrev _root_.Go.Abs.xs141 : List AV := .x :: xs140
abbrev _root_.Go.Abs.xs142 : List AV := .x :: xs141
abbrev _root_.Go.Abs.xs143 : List AV := .x :: xs142
abbrev _root_.Go.Abs.xs144 : List AV := .x :: xs143
abbrev _root_.Go.Abs.xs145 : List AV := .x :: xs144
abbrev _root_.Go.Abs.xs146 : List AV := .x :: xs145
abbrev _root_.Go.Abs.xs147 : List AV := .x :: xs146
abbrev _root_.Go.Abs.xs148 : List AV := .x :: xs147
abbrev _root_.Go.Abs.xs149 : List AV := .x :: xs148
abbrev _root_.Go.Abs.xs150 : List AV := .x :: xs149
abbrev _root_.Go.Abs.xs151 : List AV := .x :: xs150
abbrev _root_.Go.Abs.xs152 : List AV := .x :: xs151
abbrev _root_.Go.Abs.xs153 : List AV := .x :: xs152
abbrev _root_.Go.Abs.xs154 : List AV := .x :: xs153
abbrev _root_.Go.Abs.xs155 : List AV := .x :: xs154
abbrev _root_.Go.Abs.xs156 : List AV := .x :: xs155
abbrev _root_.Go.Abs.xs157 : List AV := .x :: xs156
abbrev _root_.Go.Abs.xs158 : List AV := .x :: xs157
abbrev _root_.Go.Abs.xs159 : List AV := .x :: xs158
abbrev _root_.Go.Abs.xs160 : List AV := .x :: xs159
abbrev _root_.Go.Abs.xs161 : List AV := .x :: xs160
abbrev _root_.Go.Abs.xs162 : List AV := .x :: xs161
abbrev _root_.Go.Abs.xs163 : List AV := .x :: xs162
abbrev _root_.Go.Abs.xs164 : List AV := .x :: xs163
abbrev _root_.Go.Abs.xs165 : List AV := .x :: xs164
abbrev _root_.Go.Abs.xs166 : List AV := .x :: xs165
abbrev _root_.Go.Abs.xs167 : List AV := .x :: xs166
abbrev _root_.Go.Abs.xs168 : List AV := .x :: xs167
abbrev _root_.Go.Abs.xs169 : List AV := .x :: xs168
abbrev _root_.Go.Abs.xs170 : List AV := .x :: xs169
abbrev _root_.Go.Abs.xs171 : List AV := .x :: xs170
abbrev _root_.Go.Abs.xs172 : List AV := .x :: xs171
abbrev _root_.Go.Abs.xs173 : List AV := .x :: xs172
abbrev _root_.Go.Abs.xs174 : List AV := .x :: xs173
abbrev _root_.Go.Abs.xs175 : List AV := .x :: xs174
abbrev _root_.Go.Abs.xs176 : List AV := .x :: xs175
abbrev _root_.Go.Abs.xs177 : List AV := .x :: xs176
abbrev _root_.Go.Abs.xs178 : List AV := .x :: xs177
abbrev _root_.Go.Abs.xs179 : List AV := .x :: xs178
abbrev _root_.Go.Abs.xs180 : List AV := .x :: xs179
abbrev _root_.Go.Abs.xs181 : List AV := .x :: xs180
abbrev _root_.Go.Abs.xs182 : List AV := .x :: xs181
abbrev _root_.Go.Abs.xs183 : List AV := .x :: xs182
abbrev _root_.Go.Abs.xs184 : List AV := .x :: xs183
abbrev _root_.Go.Abs.xs185 : List AV := .x :: xs184
abbrev _root_.Go.Abs.xs186 : List AV := .x :: xs185
abbrev _root_.Go.Abs.xs187 : List AV := .x :: xs186
abbrev _root_.Go.Abs.xs188 : List AV := .x :: xs187
abbrev _root_.Go.Abs.xs189 : List AV := .x :: xs188
abbrev _root_.Go.Abs.xs190 : List AV := .x :: xs189
abbrev _root_.Go.Abs.xs191 : List AV := .x :: xs190
abbrev _root_.Go.Abs.xs192 : List AV := .x :: xs191
abbrev _root_.Go.Abs.xs193 : List AV := .x :: xs192
abbrev _root_.Go.Abs.xs194 : List AV := .x :: xs193
abbrev _root_.Go.Abs.xs195 : List AV := .x :: xs194
abbrev _root_.Go.Abs.xs196 : List AV := .x :: xs195
abbrev _root_.Go.Abs.xs197 : List AV := .x :: xs196
abbrev _root_.Go.Abs.xs198 : List AV := .x :: xs197
abbrev _root_.Go.Abs.xs199 : List AV := .x :: xs198
abbrev _root_.Go.Abs.xs200 : List AV := .x :: xs199
abbrev _root_.Go.Abs.xs201 : List AV := .x :: xs200
abbrev _root_.Go.Abs.xs202 : List AV := .x :: xs201
abbrev _root_.Go.Abs.xs203 : List AV := .x :: xs202
abbrev _root_.Go.Abs.xs204 : List AV := .x :: xs203
abbrev _root_.Go.Abs.xs205 : List AV := .x :: xs204
abbrev _root_.Go.Abs.xs206 : List AV := .x :: xs205
abbrev _root_.Go.Abs.xs207 : List AV := .x :: xs206
abbrev _root_.Go.Abs.xs208 : List AV := .x :: xs207
structure CmpOk (g : FuncId) (cf : Pod → Pod → Int) : Prop where
 ext : env.ext g = none
 call : ∀ x y : Pod, PCall env g [fP x, fP y] (.int .i64 (cf x y))
def ltC (cf : Pod → Pod → Int) (x y : Pod) : Bool := decide (cf x y < 0)
set_option maxRecDepth 8000 in
theorem swr_ok (g : FuncId) {A X M Y R : List Pod} {a b n : Nat} (ha : a = A.length) (hb : b = (A ++ X ++ M).length) (hn : n = X.length) (hy : Y.length = n) (hl : (A ++ X ++ M ++ Y ++ R).length ≤ 1000000) :
  ACalls env 191 [.sfull 0, .d (.int .i64 (a : Nat)), .d (.int .i64 (b : Nat)), .d (.int .i64 (n : Nat)), .d (.func g [])] [.arr 26 9 (pods (A ++ X ++ M ++ Y ++ R))] fun r H' => r = .d (.tup []) ∧ H' = [.arr 26 9 (pods (A ++ Y ++ M ++ X ++ R))] := by
 simp only [List.length_append] at hb hl
 refine acalls_of envOk Tryz.func191 rfl (by kernel_rfl) (m := 33) rfl ?_
 simp only [push_cast, simprocAttr, fP, pL]
 refine ALoop.mk (fun k t H ds => ∃ (i : Nat) (X1 X2 Y1 Y2 : List Pod), k = n - i ∧ i ≤ n ∧ X = X1 ++ X2 ∧ Y = Y1 ++ Y2 ∧ X1.length = i ∧ Y1.length = i ∧ t = (.sfull 0 :: .d (.int .i64 (a : Nat)) :: .d (.int .i64 (b : Nat)) :: .d (.int .i64 (n : Nat)) :: .d (.func g []) :: .x :: .x :: .x :: .x :: .x :: .d (.int .i64 (i : Nat)) :: xs27) ∧ H = [.arr 26 9 (pods (A ++ Y1 ++ X2 ++ M ++ X1 ++ Y2 ++ R))] ∧ ds = []) n
  (WK.fgt (t' := (.sfull 0 :: .d (.int .i64 (a : Nat)) :: .d (.int .i64 (b : Nat)) :: .d (.int .i64 (n : Nat)) :: .d (.func g []) :: .x :: .x :: .x :: .x :: .x :: .d (.int .i64 (0 : Nat)) :: xs27)) (by simp [fgt]) (WK.now ⟨0, [], X, [], Y, by omega, by omega, rfl, rfl, rfl, rfl, rfl, by simp, rfl⟩)) ?_
 rintro k t H ds ⟨i, X1, X2, Y1, Y2, rfl, hi, rfl, rfl, h1, h2, rfl, rfl, rfl⟩
 simp only [List.length_append] at hn hy hb hl
 simp only [push_cast, simprocAttr, fP, pL]
 refine Kbr.mk (fun c => ?_) (fun c => ?_)
 ·have c2 : i < n := by simpa using c
  obtain ⟨x, X2, rfl⟩ : ∃ x l, X2 = x :: l := by
   cases X2 with
   | nil => simp at hn; omega
   | cons x l => exact ⟨x, l, rfl⟩
  obtain ⟨y, Y2, rfl⟩ : ∃ x l, Y2 = x :: l := by
   cases Y2 with
   | nil => simp at hy; omega
   | cons x l => exact ⟨x, l, rfl⟩
  simp only [List.length_cons] at hn hy hb hl
  obtain ⟨ys, hys⟩ : ∃ ys, ys = A ++ Y1 ++ (x :: X2) ++ M ++ X1 ++ (y :: Y2) ++ R := ⟨_, rfl⟩
  have hyl : ys.length = A.length + Y1.length + (X2.length + 1) + M.length + X1.length + (Y2.length + 1) + R.length := by rw [hys]; simp; omega
  obtain ⟨p, hp⟩ : ∃ p, p = a + i := ⟨_, rfl⟩
  obtain ⟨q, hq⟩ : ∃ q, q = b + i := ⟨_, rfl⟩
  have hpl : p < ys.length := by omega
  have hql : q < ys.length := by omega
  have w1 : IntKind.wrap .i64 ((a : Int) + (i : Int)) = (p : Int) := by rw [wrapi (by omega) (by omega)]; omega
  have w2 : IntKind.wrap .i64 ((b : Int) + (i : Int)) = (q : Int) := by rw [wrapi (by omega) (by omega)]; omega
  have si := succ64 c2 (show n ≤ 4611686018427387904 by omega)
  have e1 : ys = (A ++ Y1) ++ x :: (X2 ++ M ++ X1) ++ y :: (Y2 ++ R) := by rw [hys]; simp
  have g1 : ys.getD p pz = x := by rw [e1, List.append_assoc, List.cons_append]; exact getD_at _ _ _ _ (by simp; omega)
  have g2 : ys.getD q pz = y := by rw [e1]; exact getD_at _ _ _ _ (by simp; omega)
  have hsw : (ys.set p y).set q x = A ++ (Y1 ++ [y]) ++ X2 ++ M ++ (X1 ++ [x]) ++ Y2 ++ R := by
   have := swp_far (A ++ Y1) (X2 ++ M ++ X1) (Y2 ++ R) x y pz (i := p) (j := q) (by simp; omega) (by simp; omega)
   rw [← e1, ← swq_eq _ _ _ _ (by omega)] at this
   unfold swq at this
   rw [g1, g2] at this
   rw [this]
   simp
  have hql2 : q < (ys.set p y).length := by simpa using hql
  have u1 := upd_row (q := y) hpl
  have u2 := upd_row (l := ys.set p y) (i := q) (q := x) hql2
  unfold pL at u1 u2
  rw [← hys]
  simp only [push_cast, simprocAttr, fP, pL]
  refine DRegL.det [21, 23] [0, 1, 2, 3, 4, 5, 6, 7, 8, 9, 10, 11, 12, 13, 14, 15, 16, 17, 18, 19, 20] [(21, [4, 5, 6, 7], [22]), (23, [], [])] (by kernel_rfl) (by kernel_rfl) (by kernel_rfl) ?_
  simp only [w1, w2, hpl, hql, hql2, seg_pods, g1, g2, u1, u2, si, push_cast, simprocAttr, fP, pL]
  exact ⟨n - (i + 1), by omega, WK.fgt (t' := (.sfull 0 :: .d (.int .i64 (a : Nat)) :: .d (.int .i64 (b : Nat)) :: .d (.int .i64 (n : Nat)) :: .d (.func g []) :: .x :: .x :: .x :: .x :: .x :: .d (.int .i64 (i + 1 : Nat)) :: xs27)) (by simp [fgt]) (WK.now ⟨i + 1, X1 ++ [x], X2, Y1 ++ [y], Y2, rfl, by omega, by simp, by simp, by simp [h1], by simp [h2], rfl, by rw [hsw], rfl⟩)⟩
 ·have c2 : ¬ i < n := by simpa using c
  have z1 : X2 = [] := List.eq_nil_of_length_eq_zero (by omega)
  have z2 : Y2 = [] := List.eq_nil_of_length_eq_zero (by omega)
  subst z1 z2
  simp only [push_cast, simprocAttr, fP, pL]
  refine WK.now ?_
  simp only [push_cast, simprocAttr, fP, pL]
end Go.Proofs.YtmeicgbddgeeoaaGreatDoor
end
section
set_option autoImplicit false
set_option linter.unusedVariables false
set_option linter.unusedSimpArgs false
namespace Go.Proofs.YtmeicgbddgeeoaaGreatDoor
open Go.Abs
set_option maxRecDepth 8000 in
theorem rot_ok (g : FuncId) {L A B R : List Pod} {a m b : Nat} (ha : a = L.length) (hm : m = (L ++ A).length) (hb : b = (L ++ A ++ B).length) (hA : A ≠ []) (hB : B ≠ []) (hl : (L ++ A ++ B ++ R).length ≤ 1000000) :
  ACalls env 184 [.sfull 0, .d (.int .i64 (a : Nat)), .d (.int .i64 (m : Nat)), .d (.int .i64 (b : Nat)), .d (.func g [])] [.arr 26 9 (pods (L ++ A ++ B ++ R))] fun r H' => r = .d (.tup []) ∧ H' = [.arr 26 9 (pods (L ++ B ++ A ++ R))] := by
 have hm' : m = a + A.length := by rw [hm, ha]; simp
 have hb' : b = m + B.length := by rw [hb, hm]; simp; omega
 have hAp : 0 < A.length := List.length_pos_iff.2 hA
 have hBp : 0 < B.length := List.length_pos_iff.2 hB
 have hl' : L.length + A.length + B.length + R.length ≤ 1000000 := by simpa [Nat.add_assoc] using hl
 have w1 : IntKind.wrap .i64 ((m : Int) - (a : Int)) = (A.length : Int) := by rw [wrapi (by omega) (by omega)]; omega
 have w2 : IntKind.wrap .i64 ((b : Int) - (m : Int)) = (B.length : Int) := by rw [wrapi (by omega) (by omega)]; omega
 refine acalls_of envOk Tryz.func184 rfl (by kernel_rfl) (m := 53) rfl ?_
 simp only [w1, w2, push_cast, simprocAttr, fP, pL]
 refine ALoop.mk (fun k t H ds => ∃ (P X Y Q : List Pod) (x y : Nat), k = x + y ∧ x = X.length ∧ y = Y.length ∧ 0 < x ∧ 0 < y ∧ m = P.length + x ∧ P ++ Y ++ X ++ Q = L ++ B ++ A ++ R ∧ t = (.sfull 0 :: .d (.int .i64 (a : Nat)) :: .d (.int .i64 (m : Nat)) :: .d (.int .i64 (b : Nat)) :: .d (.func g []) :: .x :: .x :: .x :: .x :: .x :: .d (.int .i64 (x : Nat)) :: .d (.int .i64 (y : Nat)) :: xs46) ∧ H = [.arr 26 9 (pods (P ++ X ++ Y ++ Q))] ∧ ds = []) (A.length + B.length)
  (WK.fgt (t' := (.sfull 0 :: .d (.int .i64 (a : Nat)) :: .d (.int .i64 (m : Nat)) :: .d (.int .i64 (b : Nat)) :: .d (.func g []) :: .x :: .x :: .x :: .x :: .x :: .d (.int .i64 (A.length : Nat)) :: .d (.int .i64 (B.length : Nat)) :: xs46)) (by simp [fgt]) (WK.now ⟨L, A, B, R, A.length, B.length, rfl, rfl, rfl, hAp, hBp, by rw [hm', ha], rfl, rfl, rfl, rfl⟩)) ?_
 rintro k t H ds ⟨P, X, Y, Q, x, y, rfl, hxl, hyl, hX, hY, hP, hf, rfl, rfl, rfl⟩
 have hlen : P.length + y + x + Q.length = L.length + B.length + A.length + R.length := by
  have := congrArg List.length hf
  rw [hxl, hyl]
  simpa [Nat.add_assoc] using this
 obtain ⟨p, hp⟩ : ∃ p, p = P.length := ⟨_, rfl⟩
 have q1 : IntKind.wrap .i64 ((m : Int) - (x : Int)) = (p : Int) := by rw [wrapi (by omega) (by omega)]; omega
 simp only [push_cast, simprocAttr, fP, pL]
 by_cases he : x = y
 ·have b1 : ((x : Int) != (y : Int)) = false := by rw [he]; simp
  have hs := swr_ok g (A := P) (X := X) (M := []) (Y := Y) (R := Q) (a := p) (b := m) (n := x) hp (by simp; omega) hxl (by omega) (by simp; omega)
  simp only [List.append_nil] at hs
  simp only [b1, q1, push_cast, simprocAttr, fP, pL]
  refine hs.at [0] (by simp [PV, fP, pL, sl, pods_length, sbl, ren_none, ren_var, ren_arr, ren_map, ren_mapb, ren_iter, ren_loop, ren_defr, bel_none, bel_var, bel_arr, bel_map, bel_mapb, bel_iter, bel_loop, bel_defr, AV.renL, AV.ren, AV.belL, AV.bel, rn]) (by simp) (by simp [PV, fP, pL, sl, pods_length]) (by simp [PV, fP, pL, sl, pods_length, AV.ren, AV.renL, rn]) (by simp [AV.belL, AV.bel]) (WK.now ?_)
  simp only [push_cast, simprocAttr, fP, pL]
  refine WK.now ?_
  simp only [push_cast, simprocAttr, fP, pL]
  rw [hf]
 ·have b1 : ((x : Int) != (y : Int)) = true := by simp; omega
  by_cases hgt : y < x
  ·have b2 : decide (y < x) = true := decide_eq_true hgt
   obtain ⟨X1, X2, hX12, hx1⟩ : ∃ X1 X2, X = X1 ++ X2 ∧ X1.length = y := ⟨X.take y, X.drop y, by simp, by simp; omega⟩
   subst hX12
   simp only [List.length_append] at hxl
   have hs := swr_ok g (A := P) (X := X1) (M := X2) (Y := Y) (R := Q) (a := p) (b := m) (n := y) hp (by simp; omega) hx1.symm hyl.symm (by simp; omega)
   obtain ⟨z, hz⟩ : ∃ z, z = x - y := ⟨_, rfl⟩
   have w3 : IntKind.wrap .i64 ((x : Int) - (y : Int)) = (z : Int) := by rw [wrapi (by omega) (by omega)]; omega
   rw [show P ++ (X1 ++ X2) ++ Y ++ Q = P ++ X1 ++ X2 ++ Y ++ Q by simp]
   simp only [b1, b2, q1, push_cast, simprocAttr, fP, pL]
   refine hs.at [0] (by simp [PV, fP, pL, sl, pods_length, sbl, ren_none, ren_var, ren_arr, ren_map, ren_mapb, ren_iter, ren_loop, ren_defr, bel_none, bel_var, bel_arr, bel_map, bel_mapb, bel_iter, bel_loop, bel_defr, AV.renL, AV.ren, AV.belL, AV.bel, rn]) (by simp) (by simp [PV, fP, pL, sl, pods_length]) (by simp [PV, fP, pL, sl, pods_length, AV.ren, AV.renL, rn]) (by simp [AV.belL, AV.bel]) (WK.now ?_)
   simp only [w3, push_cast, simprocAttr, fP, pL]
   exact ⟨z + y, by omega, WK.fgt (t' := (.sfull 0 :: .d (.int .i64 (a : Nat)) :: .d (.int .i64 (m : Nat)) :: .d (.int .i64 (b : Nat)) :: .d (.func g []) :: .x :: .x :: .x :: .x :: .x :: .d (.int .i64 (z : Nat)) :: .d (.int .i64 (y : Nat)) :: xs46)) (by simp [fgt]) (WK.now ⟨P ++ Y, X2, X1, Q, z, y, rfl, by omega, by omega, by omega, by omega, by simp; omega, by rw [← hf]; simp, rfl, by simp, rfl⟩)⟩
  ·have b2 : decide (y < x) = false := decide_eq_false hgt
   obtain ⟨Y1, Y2, hY12, hy2⟩ : ∃ Y1 Y2, Y = Y1 ++ Y2 ∧ Y2.length = x := ⟨Y.take (y - x), Y.drop (y - x), by simp, by simp; omega⟩
   subst hY12
   simp only [List.length_append] at hyl
   obtain ⟨z, hz⟩ : ∃ z, z = y - x := ⟨_, rfl⟩
   obtain ⟨u, hu⟩ : ∃ u, u = m + y - x := ⟨_, rfl⟩
   have hs := swr_ok g (A := P) (X := X) (M := Y1) (Y := Y2) (R := Q) (a := p) (b := u) (n := x) hp (by simp; omega) hxl hy2 (by simp; omega)
   have w3 : IntKind.wrap .i64 ((y : Int) - (x : Int)) = (z : Int) := by rw [wrapi (by omega) (by omega)]; omega
   have w4 : IntKind.wrap .i64 ((m : Int) + (y : Int)) = (m : Int) + (y : Int) := by rw [wrapi (by omega) (by omega)]
   have w5 : IntKind.wrap .i64 ((m : Int) + (y : Int) - (x : Int)) = (u : Int) := by rw [wrapi (by omega) (by omega)]; omega
   rw [show P ++ X ++ (Y1 ++ Y2) ++ Q = P ++ X ++ Y1 ++ Y2 ++ Q by simp]
   simp only [b1, b2, q1, w4, w5, push_cast, simprocAttr, fP, pL]
   refine hs.at [0] (by simp [PV, fP, pL, sl, pods_length, sbl, ren_none, ren_var, ren_arr, ren_map, ren_mapb, ren_iter, ren_loop, ren_defr, bel_none, bel_var, bel_arr, bel_map, bel_mapb, bel_iter, bel_loop, bel_defr, AV.renL, AV.ren, AV.belL, AV.bel, rn]) (by simp) (by simp [PV, fP, pL, sl, pods_length]) (by simp [PV, fP, pL, sl, pods_length, AV.ren, AV.renL, rn]) (by simp [AV.belL, AV.bel]) (WK.now ?_)
   simp only [w3, push_cast, simprocAttr, fP, pL]
   exact ⟨x + z, by omega, WK.fgt (t' := (.sfull 0 :: .d (.int .i64 (a : Nat)) :: .d (.int .i64 (m : Nat)) :: .d (.int .i64 (b : Nat)) :: .d (.func g []) :: .x :: .x :: .x :: .x :: .x :: .d (.int .i64 (x : Nat)) :: .d (.int .i64 (z : Nat)) :: xs46)) (by simp [fgt]) (WK.now ⟨P, Y2, Y1, X ++ Q, x, z, rfl, by omega, by omega, by omega, by omega, by omega, by rw [← hf]; simp, rfl, by simp, rfl⟩)⟩
set_option maxRecDepth 8000 in
theorem iso_ok {g : FuncId} {cf : Pod → Pod → Int} (hc : CmpOk g cf) (hO : Ord (ltC cf)) {L M R : List Pod} {a b : Nat} (ha : a = L.length) (hb : b = (L ++ M).length) (hl : (L ++ M ++ R).length ≤ 1000000) :
  ACalls env 171 [.sfull 0, .d (.int .i64 (a : Nat)), .d (.int .i64 (b : Nat)), .d (.func g [])] [.arr 26 9 (pods (L ++ M ++ R))] fun r H' => r = .d (.tup []) ∧ ∃ M', M'.Perm M ∧ Srt (ltC cf) M' ∧ H' = [.arr 26 9 (pods (L ++ M' ++ R))] := by
 have hb' : b = a + M.length := by rw [hb, ha]; simp
 have hl' : L.length + M.length + R.length ≤ 1000000 := by simpa [Nat.add_assoc] using hl
 have hx := hc.ext
 have hcall := hc.call
 have w0 : IntKind.wrap .i64 ((a : Int) + 1) = (a : Int) + 1 := by rw [wrapi (by omega) (by omega)]
 refine acalls_of envOk Tryz.func171 rfl (by kernel_rfl) (m := 49) rfl ?_
 simp only [w0, push_cast, simprocAttr, fP, pL]
 cases M with
 | nil =>
  have b0 : decide ((a : Int) + 1 < (b : Int)) = false := decide_eq_false (by simp at hb'; omega)
  refine ALoop.mk (fun k t H ds => t = (.sfull 0 :: .d (.int .i64 (a : Nat)) :: .d (.int .i64 (b : Nat)) :: .d (.func g []) :: .x :: .x :: .x :: .x :: .d (.int .i64 (a + 1 : Nat)) :: xs44) ∧ H = [.arr 26 9 (pods (L ++ [] ++ R))] ∧ ds = []) 0
   (WK.fgt (t' := (.sfull 0 :: .d (.int .i64 (a : Nat)) :: .d (.int .i64 (b : Nat)) :: .d (.func g []) :: .x :: .x :: .x :: .x :: .d (.int .i64 (a + 1 : Nat)) :: xs44)) (by simp [fgt]) (WK.now ⟨rfl, rfl, rfl⟩)) ?_
  rintro k t H ds ⟨rfl, rfl, rfl⟩
  simp only [b0, push_cast, simprocAttr, fP, pL]
  refine WK.now ?_
  simp only [push_cast, simprocAttr, fP, pL]
  exact ⟨[], List.Perm.refl _, srt_nil, by simp⟩
 | cons u M =>
  refine ALoop.mk (fun k t H ds => ∃ (i : Nat) (S M1 M2 : List Pod), k = b - i ∧ u :: M = M1 ++ M2 ∧ S.Perm M1 ∧ Srt (ltC cf) S ∧ i = a + S.length ∧ t = (.sfull 0 :: .d (.int .i64 (a : Nat)) :: .d (.int .i64 (b : Nat)) :: .d (.func g []) :: .x :: .x :: .x :: .x :: .d (.int .i64 (i : Nat)) :: xs44) ∧ H = [.arr 26 9 (pods (L ++ S ++ M2 ++ R))] ∧ ds = []) (b - (a + 1))
   (WK.fgt (t' := (.sfull 0 :: .d (.int .i64 (a : Nat)) :: .d (.int .i64 (b : Nat)) :: .d (.func g []) :: .x :: .x :: .x :: .x :: .d (.int .i64 (a + 1 : Nat)) :: xs44)) (by simp [fgt]) (WK.now ⟨a + 1, [u], [u], M, by omega, rfl, List.Perm.refl _, srt_one u, rfl, rfl, by simp, rfl⟩)) ?_
  rintro k t H ds ⟨i, S, M1, M2, rfl, hM, hS, hs, hi, rfl, rfl, rfl⟩
  have hlm : S.length + M2.length = M.length + 1 := by
   have := congrArg List.length hM
   simp at this
   rw [hS.length_eq]; omega
  simp only [List.length_cons] at hb' hl'
  simp only [push_cast, simprocAttr, fP, pL]
  refine Kbr.mk (fun c => ?_) (fun c => ?_)
  ·have c2 : i < b := by simpa using c
   obtain ⟨x, M2, rfl⟩ : ∃ x l, M2 = x :: l := by
    cases M2 with
    | nil => simp at hlm; omega
    | cons x l => exact ⟨x, l, rfl⟩
   have si := succ64 c2 (show b ≤ 4611686018427387904 by omega)
   simp only [List.length_cons] at hlm
   simp only [push_cast, simprocAttr, fP, pL]
   refine ALoop.mk (fun k t H ds => ∃ (S1 S2 : List Pod), k = S1.length ∧ S = S1 ++ S2 ∧ (∀ y ∈ S2, ltC cf x y = true) ∧ t = (.sfull 0 :: .d (.int .i64 (a : Nat)) :: .d (.int .i64 (b : Nat)) :: .d (.func g []) :: .x :: .x :: .x :: .x :: .d (.int .i64 (i : Nat)) :: .d (.int .i64 (a + S1.length : Nat)) :: xs43) ∧ H = [.arr 26 9 (pods (L ++ S1 ++ x :: S2 ++ M2 ++ R))] ∧ ds = []) S.length
    (WK.fgt (t' := (.sfull 0 :: .d (.int .i64 (a : Nat)) :: .d (.int .i64 (b : Nat)) :: .d (.func g []) :: .x :: .x :: .x :: .x :: .d (.int .i64 (i : Nat)) :: .d (.int .i64 (i : Nat)) :: xs43)) (by simp [fgt]) (WK.now ⟨S, [], rfl, by simp, by simp, by rw [hi], by simp, rfl⟩)) ?_
   rintro k t H ds ⟨S1, S2, rfl, rfl, h2, rfl, rfl, rfl⟩
   simp only [List.length_append] at hi hlm
   have hMx : u :: M = (M1 ++ [x]) ++ M2 := by rw [hM]; simp
   have hpx : (S1 ++ x :: S2).Perm (M1 ++ [x]) := (List.perm_middle.trans (hS.cons x)).trans (List.perm_append_singleton x M1).symm
   have hlx : i + 1 = a + (S1 ++ x :: S2).length := by simp; omega
   obtain ⟨j, hj⟩ : ∃ j, j = a + S1.length := ⟨_, rfl⟩
   rw [← hj]
   simp only [push_cast, simprocAttr, fP, pL]
   rcases List.eq_nil_or_concat S1 with rfl | ⟨T, y, rfl⟩
   ·have b1 : decide (a < j) = false := decide_eq_false (by simp at hj; omega)
    refine DRegL.det [] [0, 1, 2, 3, 4, 5, 6, 7, 8, 9, 10, 11, 12, 13, 14, 15, 16] [] (by kernel_rfl) (by kernel_rfl) (by kernel_rfl) ?_
    simp only [b1, si, push_cast, simprocAttr, fP, pL]
    exact ⟨b - (i + 1), by omega, WK.fgt (t' := (.sfull 0 :: .d (.int .i64 (a : Nat)) :: .d (.int .i64 (b : Nat)) :: .d (.func g []) :: .x :: .x :: .x :: .x :: .d (.int .i64 (i + 1 : Nat)) :: xs44)) (by simp [fgt]) (WK.now ⟨i + 1, [] ++ x :: S2, M1 ++ [x], M2, rfl, hMx, hpx, ins_end hO hs h2 (fun y h => by cases h), hlx, rfl, by simp, rfl⟩)⟩
   ·rw [List.concat_eq_append] at *
    simp only [List.length_append, List.length_cons, List.length_nil] at hj hi hlm
    obtain ⟨q, hq⟩ : ∃ q, q = a + T.length := ⟨_, rfl⟩
    have b1 : decide (a < j) = true := decide_eq_true (by omega)
    obtain ⟨ys, hys⟩ : ∃ ys, ys = L ++ (T ++ [y]) ++ x :: S2 ++ M2 ++ R := ⟨_, rfl⟩
    have hyl : ys.length = L.length + (T.length + 1) + (S2.length + 1) + M2.length + R.length := by rw [hys]; simp; omega
    have hjl : j < ys.length := by omega
    have hql : q < ys.length := by omega
    have w1 : IntKind.wrap .i64 ((j : Int) - 1) = (q : Int) := by rw [wrapi (by omega) (by omega)]; omega
    have e1 : ys = (L ++ T) ++ y :: x :: (S2 ++ M2 ++ R) := by rw [hys]; simp
    have g1 : ys.getD q pz = y := by rw [e1]; exact getD_at _ _ _ _ (by simp; omega)
    have g2 : ys.getD j pz = x := by rw [e1, show (L ++ T) ++ y :: x :: (S2 ++ M2 ++ R) = (L ++ T ++ [y]) ++ x :: (S2 ++ M2 ++ R) by simp]; exact getD_at _ _ _ _ (by simp; omega)
    have hcl := hcall x y
    unfold fP pL at hcl
    rw [← hys]
    refine DRegL.det [] [0, 1, 2, 3, 4, 5, 6, 7, 8, 9, 10, 11, 12, 13, 14, 15, 16] [] (by kernel_rfl) (by kernel_rfl) (by kernel_rfl) ?_
    simp only [b1, w1, hjl, hql, seg_pods, g1, g2, hx, push_cast, simprocAttr, fP, pL]
    refine hcl.quiet' (by first | exact ⟨.inl rfl, trivial⟩ | exact ⟨.inl rfl, .inl rfl, trivial⟩ | exact ⟨.inl rfl, .inl rfl, .inl rfl, trivial⟩ | simp [argsOk, argOk, sl, sll]) ?_
    cases hlt : ltC cf x y with
    | false =>
     have b2 : decide (cf x y < 0) = false := hlt
     simp only [b2, si, push_cast, simprocAttr, fP, pL]
     rw [hys]
     exact ⟨b - (i + 1), by omega, WK.fgt (t' := (.sfull 0 :: .d (.int .i64 (a : Nat)) :: .d (.int .i64 (b : Nat)) :: .d (.func g []) :: .x :: .x :: .x :: .x :: .d (.int .i64 (i + 1 : Nat)) :: xs44)) (by simp [fgt]) (WK.now ⟨i + 1, (T ++ [y]) ++ x :: S2, M1 ++ [x], M2, rfl, hMx, hpx, ins_end hO hs h2 (fun z h => by simp at h; subst h; exact hlt), hlx, rfl, by simp, rfl⟩)⟩
    | true =>
     have b2 : decide (cf x y < 0) = true := hlt
     have hql2 : q < (ys.set j y).length := by simpa using hql
     have u1 := upd_row (q := y) hjl
     have u2 := upd_row (l := ys.set j y) (i := q) (q := x) hql2
     unfold pL at u1 u2
     have hsw : (ys.set j y).set q x = L ++ T ++ x :: (y :: S2) ++ M2 ++ R := by
      have := swp_next (L ++ T) (S2 ++ M2 ++ R) y x pz (i := q) (j := j) (by simp; omega) (by simp; omega)
      rw [← e1] at this
      unfold swp at this
      rw [g1, g2] at this
      rw [this]
      simp
     simp only [b2, push_cast, simprocAttr, fP, pL]
     refine DRegL.det [15, 17] [0, 1, 2, 3, 4, 5, 6, 7, 8, 9, 10, 11, 12, 13, 14] [(15, [2, 3, 4], [16]), (17, [], [])] (by kernel_rfl) (by kernel_rfl) (by kernel_rfl) ?_
     simp only [w1, hjl, hql, hql2, seg_pods, g1, g2, u1, u2, push_cast, simprocAttr, fP, pL]
     exact ⟨T.length, by simp, WK.fgt (t' := (.sfull 0 :: .d (.int .i64 (a : Nat)) :: .d (.int .i64 (b : Nat)) :: .d (.func g []) :: .x :: .x :: .x :: .x :: .d (.int .i64 (i : Nat)) :: .d (.int .i64 (a + T.length : Nat)) :: xs43)) (by simp [fgt, hq]) (WK.now ⟨T, y :: S2, rfl, by simp, fun z hz => by
      rcases List.mem_cons.1 hz with rfl | hz
      ·exact hlt
      ·exact h2 z hz, rfl, by rw [hsw], rfl⟩)⟩
  ·have c2 : ¬ i < b := by simpa using c
   have hz : M2 = [] := List.eq_nil_of_length_eq_zero (by omega)
   subst hz
   simp only [push_cast, simprocAttr, fP, pL]
   refine WK.now ?_
   simp only [push_cast, simprocAttr, fP, pL]
   rw [List.append_nil] at hM
   exact ⟨S, hM ▸ hS, hs, by simp⟩
end Go.Proofs.YtmeicgbddgeeoaaGreatDoor
end
section
set_option autoImplicit false
set_option linter.unusedVariables false
set_option linter.unusedSimpArgs false
namespace Go.Proofs.YtmeicgbddgeeoaaGreatDoor
open Go.Abs
theorem mid_wrap {s : Nat} (h : s ≤ 4611686018427387904) : IntKind.wrap .u64 (s : Int) = (s : Int) := by
 unfold IntKind.wrap; simp [IntKind.bits, IntKind.signed]; omega
theorem mid_half {s h : Nat} (hh : h = s / 2) (hs : s ≤ 4611686018427387904) : IntKind.wrap .i64 ((s : Int).fdiv (2 ^ min 1 64)) = (h : Int) := by
 have e : (s : Int).fdiv (2 ^ min 1 64) = (h : Int) := by
  subst hh
  show (s : Int).fdiv 2 = _
  rw [Int.fdiv_eq_ediv_of_nonneg _ (by decide)]; omega
 rw [e, wrapi (by omega) (by omega)]
theorem split_half {l : List Pod} (h : 0 < l.length) : ∃ C y D, l = C ++ y :: D ∧ C.length = l.length / 2 := by
 refine ⟨l.take (l.length / 2), l[l.length / 2]'(by omega), l.drop (l.length / 2 + 1), ?_, by simp; omega⟩
 conv => lhs; rw [← List.take_append_drop (l.length / 2) l]
 congr 1
 exact List.drop_eq_getElem_cons (by omega)
set_option maxRecDepth 8000 in
theorem sym_one {g : FuncId} {cf : Pod → Pod → Int} (hc : CmpOk g cf) (hO : Ord (ltC cf)) {L B R : List Pod} {x : Pod} {a m b : Nat} (ha : a = L.length) (hm : m = a + 1) (hb : b = m + B.length) (sB : Srt (ltC cf) B) (hl : (L ++ x :: B ++ R).length ≤ 1000000) :
  ACalls env 172 [.sfull 0, .d (.int .i64 (a : Nat)), .d (.int .i64 (m : Nat)), .d (.int .i64 (b : Nat)), .d (.func g [])] [.arr 26 9 (pods (L ++ x :: B ++ R))] fun r H' => r = .d (.tup []) ∧ ∃ C, C.Perm (x :: B) ∧ Srt (ltC cf) C ∧ H' = [.arr 26 9 (pods (L ++ C ++ R))] := by
 have hl' : L.length + B.length + R.length ≤ 1000000 := by simp at hl; omega
 have hx := hc.ext
 have hcall := hc.call
 have w0 : IntKind.wrap .i64 ((m : Int) - (a : Int)) = 1 := by rw [wrapi (by omega) (by omega)]; omega
 refine acalls_of envOk Tryz.func172 rfl (by kernel_rfl) (m := 215) rfl ?_
 simp only [w0, push_cast, simprocAttr, fP, pL]
 refine ALoop.mk (fun k t H ds => ∃ (B1 B2 B3 : List Pod) (i j : Nat), k = B2.length ∧ B = B1 ++ B2 ++ B3 ∧ i = m + B1.length ∧ j = i + B2.length ∧ (∀ y, B1.getLast? = some y → ltC cf y x = true) ∧ (∀ y, B3.head? = some y → ltC cf y x = false) ∧ t = (.sfull 0 :: .d (.int .i64 (a : Nat)) :: .d (.int .i64 (m : Nat)) :: .d (.int .i64 (b : Nat)) :: .d (.func g []) :: .x :: .x :: .x :: .x :: .x :: .d (.int .i64 (i : Nat)) :: .d (.int .i64 (j : Nat)) :: xs208) ∧ H = [.arr 26 9 (pods (L ++ x :: B ++ R))] ∧ ds = []) B.length
  (WK.fgt (t' := (.sfull 0 :: .d (.int .i64 (a : Nat)) :: .d (.int .i64 (m : Nat)) :: .d (.int .i64 (b : Nat)) :: .d (.func g []) :: .x :: .x :: .x :: .x :: .x :: .d (.int .i64 (m : Nat)) :: .d (.int .i64 (b : Nat)) :: xs208)) (by simp [fgt]) (WK.now ⟨[], B, [], m, b, rfl, by simp, rfl, hb, by simp, by simp, rfl, rfl, rfl⟩)) ?_
 rintro k t H ds ⟨B1, B2, B3, i, j, rfl, hB, hi, hj, h1, h3, rfl, rfl, rfl⟩
 have hBl : B.length = B1.length + B2.length + B3.length := by rw [hB]; simp; omega
 simp only [push_cast, simprocAttr, fP, pL]
 refine Kbr.mk (fun c => ?_) (fun c => ?_)
 ·have c2 : i < j := by simpa using c
  obtain ⟨C, y, D, hCD, hC⟩ := split_half (l := B2) (by omega)
  obtain ⟨s, hs⟩ : ∃ s, s = i + j := ⟨_, rfl⟩
  obtain ⟨h, hh⟩ : ∃ h, h = s / 2 := ⟨_, rfl⟩
  have hB2 : B2.length = C.length + (D.length + 1) := by rw [hCD]; simp
  have hhi : h = i + C.length := by omega
  have w1 : IntKind.wrap .i64 ((i : Int) + (j : Int)) = (s : Int) := by rw [wrapi (by omega) (by omega)]; omega
  have w2 := mid_wrap (s := s) (by omega)
  have w3 := mid_half hh (by omega)
  have w4 : IntKind.wrap .i64 ((h : Int) + 1) = ((h + 1 : Nat) : Int) := succ64 (n := 1000001) (by omega) (by omega)
  obtain ⟨ys, hys⟩ : ∃ ys, ys = L ++ x :: B ++ R := ⟨_, rfl⟩
  have hyl : ys.length = L.length + (B.length + 1) + R.length := by rw [hys]; simp; omega
  have hal : a < ys.length := by omega
  have hhl : h < ys.length := by omega
  have g1 : ys.getD a pz = x := by rw [hys, List.append_assoc, List.cons_append]; exact getD_at _ _ _ _ ha
  have g2 : ys.getD h pz = y := by
   rw [hys, hB, hCD, show L ++ x :: (B1 ++ (C ++ y :: D) ++ B3) ++ R = (L ++ x :: (B1 ++ C)) ++ y :: (D ++ B3 ++ R) by simp]
   exact getD_at _ _ _ _ (by simp; omega)
  have hcl := hcall y x
  unfold fP pL at hcl
  rw [← hys]
  simp only [w1, w2, w3, push_cast, simprocAttr, fP, pL]
  refine DRegL.det [] [0, 1, 2, 3, 4, 5, 6, 7, 8, 9, 10] [] (by kernel_rfl) (by kernel_rfl) (by kernel_rfl) ?_
  simp only [hal, hhl, seg_pods, g1, g2, hx, push_cast, simprocAttr, fP, pL]
  refine hcl.quiet' (by first | exact ⟨.inl rfl, trivial⟩ | exact ⟨.inl rfl, .inl rfl, trivial⟩ | exact ⟨.inl rfl, .inl rfl, .inl rfl, trivial⟩ | simp [argsOk, argOk, sl, sll]) ?_
  cases hlt : ltC cf y x with
  | true =>
   have b2 : decide (cf y x < 0) = true := hlt
   simp only [b2, w4, push_cast, simprocAttr, fP, pL]
   exact ⟨D.length, by omega, WK.fgt (t' := (.sfull 0 :: .d (.int .i64 (a : Nat)) :: .d (.int .i64 (m : Nat)) :: .d (.int .i64 (b : Nat)) :: .d (.func g []) :: .x :: .x :: .x :: .x :: .x :: .d (.int .i64 (h + 1 : Nat)) :: .d (.int .i64 (j : Nat)) :: xs208)) (by simp [fgt]) (WK.now ⟨B1 ++ C ++ [y], D, B3, h + 1, j, rfl, by rw [hB, hCD]; simp, by simp; omega, by omega, fun z hz => by simp at hz; subst hz; exact hlt, h3, rfl, by rw [hys], rfl⟩)⟩
  | false =>
   have b2 : decide (cf y x < 0) = false := hlt
   simp only [b2, push_cast, simprocAttr, fP, pL]
   exact ⟨C.length, by omega, WK.fgt (t' := (.sfull 0 :: .d (.int .i64 (a : Nat)) :: .d (.int .i64 (m : Nat)) :: .d (.int .i64 (b : Nat)) :: .d (.func g []) :: .x :: .x :: .x :: .x :: .x :: .d (.int .i64 (i : Nat)) :: .d (.int .i64 (h : Nat)) :: xs208)) (by simp [fgt]) (WK.now ⟨B1, C, y :: D ++ B3, i, h, rfl, by rw [hB, hCD]; simp, hi, hhi, h1, fun z hz => by simp at hz; subst hz; exact hlt, rfl, by rw [hys], rfl⟩)⟩
 ·have c2 : ¬ i < j := by simpa using c
  obtain rfl : B2 = [] := List.eq_nil_of_length_eq_zero (by omega)
  rw [List.append_nil] at hB
  simp only [List.length_nil] at hBl
  have hsort : Srt (ltC cf) (B1 ++ x :: B3) := one_right hO (hB ▸ sB) h1 h3
  obtain ⟨i', hi'⟩ : ∃ i', i' = i - 1 := ⟨_, rfl⟩
  have w5 : IntKind.wrap .i64 ((i : Int) - 1) = (i' : Int) := by rw [wrapi (by omega) (by omega)]; omega
  simp only [push_cast, simprocAttr, fP, pL]
  refine ALoop.mk (fun k t H ds => ∃ (P Q : List Pod) (q : Nat), k = Q.length ∧ B1 = P ++ Q ∧ q = a + P.length ∧ t = (.sfull 0 :: .d (.int .i64 (a : Nat)) :: .d (.int .i64 (m : Nat)) :: .d (.int .i64 (b : Nat)) :: .d (.func g []) :: .x :: .x :: .x :: .x :: .x :: .d (.int .i64 (i : Nat)) :: .x :: .x :: .d (.int .i64 (q : Nat)) :: xs206) ∧ H = [.arr 26 9 (pods (L ++ P ++ x :: Q ++ B3 ++ R))] ∧ ds = []) B1.length
   (WK.fgt (t' := (.sfull 0 :: .d (.int .i64 (a : Nat)) :: .d (.int .i64 (m : Nat)) :: .d (.int .i64 (b : Nat)) :: .d (.func g []) :: .x :: .x :: .x :: .x :: .x :: .d (.int .i64 (i : Nat)) :: .x :: .x :: .d (.int .i64 (a : Nat)) :: xs206)) (by simp [fgt]) (WK.now ⟨[], B1, a, rfl, rfl, rfl, rfl, by rw [hB]; simp, rfl⟩)) ?_
  rintro k t H ds ⟨P, Q, q, rfl, hPQ, hq, rfl, rfl, rfl⟩
  have hB1 : B1.length = P.length + Q.length := by rw [hPQ]; simp
  simp only [w5, push_cast, simprocAttr, fP, pL]
  refine Kbr.mk (fun c => ?_) (fun c => ?_)
  ·have c3 : q < i' := by simpa using c
   obtain ⟨y, Q, rfl⟩ : ∃ y l, Q = y :: l := by
    cases Q with
    | nil => simp at hB1; omega
    | cons y l => exact ⟨y, l, rfl⟩
   simp only [List.length_cons] at hB1
   obtain ⟨q', hq'⟩ : ∃ q', q' = q + 1 := ⟨_, rfl⟩
   have w6 : IntKind.wrap .i64 ((q : Int) + 1) = (q' : Int) := by rw [wrapi (by omega) (by omega)]; omega
   obtain ⟨ys, hys⟩ : ∃ ys, ys = L ++ P ++ x :: (y :: Q) ++ B3 ++ R := ⟨_, rfl⟩
   have hyl : ys.length = L.length + P.length + (Q.length + 2) + B3.length + R.length := by rw [hys]; simp; omega
   have hql : q < ys.length := by omega
   have hql' : q' < ys.length := by omega
   have e1 : ys = (L ++ P) ++ x :: y :: (Q ++ B3 ++ R) := by rw [hys]; simp
   have g1 : ys.getD q pz = x := by rw [e1]; exact getD_at _ _ _ _ (by simp; omega)
   have g2 : ys.getD q' pz = y := by rw [e1, show (L ++ P) ++ x :: y :: (Q ++ B3 ++ R) = (L ++ P ++ [x]) ++ y :: (Q ++ B3 ++ R) by simp]; exact getD_at _ _ _ _ (by simp; omega)
   have hq2 : q' < (ys.set q y).length := by simpa using hql'
   have u1 := upd_row (q := y) hql
   have u2 := upd_row (l := ys.set q y) (i := q') (q := x) hq2
   unfold pL at u1 u2
   have hsw : (ys.set q y).set q' x = L ++ (P ++ [y]) ++ x :: Q ++ B3 ++ R := by
    have := swp_next (L ++ P) (Q ++ B3 ++ R) x y pz (i := q) (j := q') (by simp; omega) (by simp; omega)
    rw [← e1, ← swq_eq _ _ _ _ (by omega)] at this
    unfold swq at this
    rw [g1, g2] at this
    rw [this]
    simp
   rw [← hys]
   simp only [push_cast, simprocAttr, fP, pL]
   refine DRegL.det [15, 17] [0, 1, 2, 3, 4, 5, 6, 7, 8, 9, 10, 11, 12, 13, 14] [(15, [2, 3, 4], [16]), (17, [], [])] (by kernel_rfl) (by kernel_rfl) (by kernel_rfl) ?_
   simp only [w6, hql, hql', hq2, seg_pods, g1, g2, u1, u2, push_cast, simprocAttr, pods_length, fP, pL]
   exact ⟨Q.length, by simp, WK.fgt (t' := (.sfull 0 :: .d (.int .i64 (a : Nat)) :: .d (.int .i64 (m : Nat)) :: .d (.int .i64 (b : Nat)) :: .d (.func g []) :: .x :: .x :: .x :: .x :: .x :: .d (.int .i64 (i : Nat)) :: .x :: .x :: .d (.int .i64 (q' : Nat)) :: xs206)) (by simp [fgt]) (WK.now ⟨P ++ [y], Q, q', rfl, by rw [hPQ]; simp, by simp; omega, rfl, by rw [hsw], rfl⟩)⟩
  ·have c3 : ¬ q < i' := by simpa using c
   obtain rfl : Q = [] := List.eq_nil_of_length_eq_zero (by omega)
   rw [List.append_nil] at hPQ
   subst hPQ
   simp only [push_cast, simprocAttr, fP, pL]
   refine WK.now ?_
   simp only [push_cast, simprocAttr, fP, pL]
   exact ⟨B1 ++ x :: B3, by rw [hB]; exact List.perm_middle, hsort, by simp⟩
set_option maxRecDepth 8000 in
theorem sym_two {g : FuncId} {cf : Pod → Pod → Int} (hc : CmpOk g cf) (hO : Ord (ltC cf)) {L A R : List Pod} {x : Pod} {a m b : Nat} (ha : a = L.length) (hm : m = a + A.length) (hA : A.length ≠ 1) (hb : b = m + 1) (sA : Srt (ltC cf) A) (hl : (L ++ A ++ x :: R).length ≤ 1000000) :
  ACalls env 172 [.sfull 0, .d (.int .i64 (a : Nat)), .d (.int .i64 (m : Nat)), .d (.int .i64 (b : Nat)), .d (.func g [])] [.arr 26 9 (pods (L ++ A ++ x :: R))] fun r H' => r = .d (.tup []) ∧ ∃ C, C.Perm (A ++ [x]) ∧ Srt (ltC cf) C ∧ H' = [.arr 26 9 (pods (L ++ C ++ R))] := by
 have hl' : L.length + A.length + R.length ≤ 1000000 := by simp at hl; omega
 have hx := hc.ext
 have hcall := hc.call
 obtain ⟨al, hal⟩ : ∃ al, al = A.length := ⟨_, rfl⟩
 have w0 : IntKind.wrap .i64 ((m : Int) - (a : Int)) = (al : Int) := by rw [wrapi (by omega) (by omega)]; omega
 have b0 : ((al : Int) == 1) = false := by simp; omega
 have w0' : IntKind.wrap .i64 ((b : Int) - (m : Int)) = 1 := by rw [wrapi (by omega) (by omega)]; omega
 refine acalls_of envOk Tryz.func172 rfl (by kernel_rfl) (m := 215) rfl ?_
 simp only [w0, b0, w0', push_cast, simprocAttr, pods_length, fP, pL]
 refine ALoop.mk (fun k t H ds => ∃ (A1 A2 A3 : List Pod) (i j : Nat), k = A2.length ∧ A = A1 ++ A2 ++ A3 ∧ i = a + A1.length ∧ j = i + A2.length ∧ (∀ y, A1.getLast? = some y → ltC cf x y = false) ∧ (∀ y, A3.head? = some y → ltC cf x y = true) ∧ t = (.sfull 0 :: .d (.int .i64 (a : Nat)) :: .d (.int .i64 (m : Nat)) :: .d (.int .i64 (b : Nat)) :: .d (.func g []) :: .x :: .x :: .x :: .x :: .x :: .x :: .x :: .x :: .x :: .d (.int .i64 (i : Nat)) :: .d (.int .i64 (j : Nat)) :: xs204) ∧ H = [.arr 26 9 (pods (L ++ A ++ x :: R))] ∧ ds = []) A.length
  (WK.fgt (t' := (.sfull 0 :: .d (.int .i64 (a : Nat)) :: .d (.int .i64 (m : Nat)) :: .d (.int .i64 (b : Nat)) :: .d (.func g []) :: .x :: .x :: .x :: .x :: .x :: .x :: .x :: .x :: .x :: .d (.int .i64 (a : Nat)) :: .d (.int .i64 (m : Nat)) :: xs204)) (by simp [fgt]) (WK.now ⟨[], A, [], a, m, rfl, by simp, rfl, hm, by simp, by simp, rfl, rfl, rfl⟩)) ?_
 rintro k t H ds ⟨A1, A2, A3, i, j, rfl, hA', hi, hj, h1, h3, rfl, rfl, rfl⟩
 have hAl : A.length = A1.length + A2.length + A3.length := by rw [hA']; simp; omega
 simp only [push_cast, simprocAttr, fP, pL]
 refine Kbr.mk (fun c => ?_) (fun c => ?_)
 ·have c2 : i < j := by simpa using c
  obtain ⟨C, y, D, hCD, hC⟩ := split_half (l := A2) (by omega)
  obtain ⟨s, hs⟩ : ∃ s, s = i + j := ⟨_, rfl⟩
  obtain ⟨h, hh⟩ : ∃ h, h = s / 2 := ⟨_, rfl⟩
  have hA2 : A2.length = C.length + (D.length + 1) := by rw [hCD]; simp
  have hhi : h = i + C.length := by omega
  have w1 : IntKind.wrap .i64 ((i : Int) + (j : Int)) = (s : Int) := by rw [wrapi (by omega) (by omega)]; omega
  have w2 := mid_wrap (s := s) (by omega)
  have w3 := mid_half hh (by omega)
  have w4 : IntKind.wrap .i64 ((h : Int) + 1) = ((h + 1 : Nat) : Int) := succ64 (n := 1000001) (by omega) (by omega)
  obtain ⟨ys, hys⟩ : ∃ ys, ys = L ++ A ++ x :: R := ⟨_, rfl⟩
  have hyl : ys.length = L.length + A.length + (R.length + 1) := by rw [hys]; simp; omega
  have hml : m < ys.length := by omega
  have hhl : h < ys.length := by omega
  have g1 : ys.getD m pz = x := by rw [hys]; exact getD_at _ _ _ _ (by simp; omega)
  have g2 : ys.getD h pz = y := by
   rw [hys, hA', hCD, show L ++ (A1 ++ (C ++ y :: D) ++ A3) ++ x :: R = (L ++ A1 ++ C) ++ y :: (D ++ A3 ++ x :: R) by simp]
   exact getD_at _ _ _ _ (by simp; omega)
  have hcl := hcall x y
  unfold fP pL at hcl
  rw [← hys]
  simp only [w1, w2, w3, push_cast, simprocAttr, fP, pL]
  refine DRegL.det [] [0, 1, 2, 3, 4, 5, 6, 7, 8, 9, 10, 11] [] (by kernel_rfl) (by kernel_rfl) (by kernel_rfl) ?_
  simp only [hml, hhl, seg_pods, g1, g2, hx, push_cast, simprocAttr, fP, pL]
  refine hcl.quiet' (by first | exact ⟨.inl rfl, trivial⟩ | exact ⟨.inl rfl, .inl rfl, trivial⟩ | exact ⟨.inl rfl, .inl rfl, .inl rfl, trivial⟩ | simp [argsOk, argOk, sl, sll]) ?_
  cases hlt : ltC cf x y with
  | false =>
   have b2 : decide (cf x y < 0) = false := hlt
   simp only [b2, w4, push_cast, simprocAttr, fP, pL]
   exact ⟨D.length, by omega, WK.fgt (t' := (.sfull 0 :: .d (.int .i64 (a : Nat)) :: .d (.int .i64 (m : Nat)) :: .d (.int .i64 (b : Nat)) :: .d (.func g []) :: .x :: .x :: .x :: .x :: .x :: .x :: .x :: .x :: .x :: .d (.int .i64 (h + 1 : Nat)) :: .d (.int .i64 (j : Nat)) :: xs204)) (by simp [fgt]) (WK.now ⟨A1 ++ C ++ [y], D, A3, h + 1, j, rfl, by rw [hA', hCD]; simp, by simp; omega, by omega, fun z hz => by simp at hz; subst hz; exact hlt, h3, rfl, by rw [hys], rfl⟩)⟩
  | true =>
   have b2 : decide (cf x y < 0) = true := hlt
   simp only [b2, push_cast, simprocAttr, fP, pL]
   exact ⟨C.length, by omega, WK.fgt (t' := (.sfull 0 :: .d (.int .i64 (a : Nat)) :: .d (.int .i64 (m : Nat)) :: .d (.int .i64 (b : Nat)) :: .d (.func g []) :: .x :: .x :: .x :: .x :: .x :: .x :: .x :: .x :: .x :: .d (.int .i64 (i : Nat)) :: .d (.int .i64 (h : Nat)) :: xs204)) (by simp [fgt]) (WK.now ⟨A1, C, y :: D ++ A3, i, h, rfl, by rw [hA', hCD]; simp, hi, hhi, h1, fun z hz => by simp at hz; subst hz; exact hlt, rfl, by rw [hys], rfl⟩)⟩
 ·have c2 : ¬ i < j := by simpa using c
  obtain rfl : A2 = [] := List.eq_nil_of_length_eq_zero (by omega)
  rw [List.append_nil] at hA'
  simp only [List.length_nil] at hAl
  have hsort : Srt (ltC cf) (A1 ++ x :: A3) := one_left hO (hA' ▸ sA) h1 h3
  simp only [push_cast, simprocAttr, fP, pL]
  refine ALoop.mk (fun k t H ds => ∃ (P Q : List Pod) (q : Nat), k = P.length ∧ A3 = P ++ Q ∧ q = i + P.length ∧ t = (.sfull 0 :: .d (.int .i64 (a : Nat)) :: .d (.int .i64 (m : Nat)) :: .d (.int .i64 (b : Nat)) :: .d (.func g []) :: .x :: .x :: .x :: .x :: .x :: .x :: .x :: .x :: .x :: .d (.int .i64 (i : Nat)) :: .x :: .x :: .d (.int .i64 (q : Nat)) :: xs202) ∧ H = [.arr 26 9 (pods (L ++ A1 ++ P ++ x :: Q ++ R))] ∧ ds = []) A3.length
   (WK.fgt (t' := (.sfull 0 :: .d (.int .i64 (a : Nat)) :: .d (.int .i64 (m : Nat)) :: .d (.int .i64 (b : Nat)) :: .d (.func g []) :: .x :: .x :: .x :: .x :: .x :: .x :: .x :: .x :: .x :: .d (.int .i64 (i : Nat)) :: .x :: .x :: .d (.int .i64 (m : Nat)) :: xs202)) (by simp [fgt]) (WK.now ⟨A3, [], m, rfl, by simp, by omega, rfl, by rw [hA']; simp, rfl⟩)) ?_
  rintro k t H ds ⟨P, Q, q, rfl, hPQ, hq, rfl, rfl, rfl⟩
  have hA3 : A3.length = P.length + Q.length := by rw [hPQ]; simp
  simp only [push_cast, simprocAttr, fP, pL]
  refine Kbr.mk (fun c => ?_) (fun c => ?_)
  ·have c3 : i < q := by simpa using c
   rcases List.eq_nil_or_concat P with rfl | ⟨P, y, rfl⟩
   ·simp at hq; omega
   rw [List.concat_eq_append] at *
   simp only [List.length_append, List.length_cons, List.length_nil] at hA3 hq
   obtain ⟨q', hq'⟩ : ∃ q', q' = q - 1 := ⟨_, rfl⟩
   have w6 : IntKind.wrap .i64 ((q : Int) - 1) = (q' : Int) := by rw [wrapi (by omega) (by omega)]; omega
   obtain ⟨ys, hys⟩ : ∃ ys, ys = L ++ A1 ++ (P ++ [y]) ++ x :: Q ++ R := ⟨_, rfl⟩
   have hyl : ys.length = L.length + A1.length + (P.length + 1) + (Q.length + 1) + R.length := by rw [hys]; simp; omega
   have hql : q < ys.length := by omega
   have hql' : q' < ys.length := by omega
   have e1 : ys = (L ++ A1 ++ P) ++ y :: x :: (Q ++ R) := by rw [hys]; simp
   have g2 : ys.getD q' pz = y := by rw [e1]; exact getD_at _ _ _ _ (by simp; omega)
   have g1 : ys.getD q pz = x := by rw [e1, show (L ++ A1 ++ P) ++ y :: x :: (Q ++ R) = (L ++ A1 ++ P ++ [y]) ++ x :: (Q ++ R) by simp]; exact getD_at _ _ _ _ (by simp; omega)
   have hq2 : q' < (ys.set q y).length := by simpa using hql'
   have u1 := upd_row (q := y) hql
   have u2 := upd_row (l := ys.set q y) (i := q') (q := x) hq2
   unfold pL at u1 u2
   have hsw : (ys.set q y).set q' x = L ++ A1 ++ P ++ x :: (y :: Q) ++ R := by
    have := swp_next (L ++ A1 ++ P) (Q ++ R) y x pz (i := q') (j := q) (by simp; omega) (by simp; omega)
    rw [← e1] at this
    unfold swp at this
    rw [g1, g2] at this
    rw [this]
    simp
   rw [← hys]
   simp only [push_cast, simprocAttr, fP, pL]
   refine DRegL.det [15, 17] [0, 1, 2, 3, 4, 5, 6, 7, 8, 9, 10, 11, 12, 13, 14] [(15, [2, 3, 4], [16]), (17, [], [])] (by kernel_rfl) (by kernel_rfl) (by kernel_rfl) ?_
   simp only [w6, hql, hql', hq2, seg_pods, g1, g2, u1, u2, push_cast, simprocAttr, pods_length, fP, pL]
   exact ⟨P.length, by simp, WK.fgt (t' := (.sfull 0 :: .d (.int .i64 (a : Nat)) :: .d (.int .i64 (m : Nat)) :: .d (.int .i64 (b : Nat)) :: .d (.func g []) :: .x :: .x :: .x :: .x :: .x :: .x :: .x :: .x :: .x :: .d (.int .i64 (i : Nat)) :: .x :: .x :: .d (.int .i64 (q' : Nat)) :: xs202)) (by simp [fgt]) (WK.now ⟨P, y :: Q, q', rfl, by rw [hPQ]; simp, by omega, rfl, by rw [hsw], rfl⟩)⟩
  ·have c3 : ¬ i < q := by simpa using c
   obtain rfl : P = [] := List.eq_nil_of_length_eq_zero (by omega)
   rw [List.nil_append] at hPQ
   subst hPQ
   simp only [push_cast, simprocAttr, fP, pL]
   refine WK.now ?_
   simp only [push_cast, simprocAttr, fP, pL]
   exact ⟨A1 ++ x :: A3, by rw [hA', List.append_assoc]; exact List.Perm.append_left A1 (List.perm_append_singleton x A3).symm, hsort, by simp⟩
end Go.Proofs.YtmeicgbddgeeoaaGreatDoor
end
section
set_option autoImplicit false
set_option linter.unusedVariables false
set_option linter.unusedSimpArgs false
namespace Go.Proofs.YtmeicgbddgeeoaaGreatDoor
open Go.Abs
theorem last_take {A : List Pod} {s : Nat} (h : s ≤ A.length) : (A.take s).getLast? = if s = 0 then none else A[s - 1]? := by
 rw [List.getLast?_eq_getElem?, List.length_take, Nat.min_eq_left h]
 by_cases hs : s = 0
 ·subst hs; simp
 ·rw [if_neg hs, List.getElem?_take, if_pos (by omega)]
theorem head_drop (A : List Pod) (s : Nat) : (A.drop s).head? = A[s]? := by
 rw [List.head?_eq_getElem?, List.getElem?_drop]; simp
theorem getD_of_get {l : List Pod} {i : Nat} {x : Pod} (h : l[i]? = some x) : l.getD i pz = x := by simp [List.getD_eq_getElem?_getD, h]
theorem get_mid {L A B R : List Pod} {i : Nat} {x : Pod} (h : A[i]? = some x) : (L ++ A ++ B ++ R)[L.length + i]? = some x := by
 have hl := (List.getElem?_eq_some_iff.1 h).1
 rw [List.append_assoc, List.append_assoc, List.getElem?_append_right (by omega), List.getElem?_append_left (by omega)]
 rw [show L.length + i - L.length = i by omega]; exact h
theorem get_mid2 {L A B R : List Pod} {i : Nat} {x : Pod} (h : B[i]? = some x) : (L ++ A ++ B ++ R)[(L ++ A).length + i]? = some x := by
 have hl := (List.getElem?_eq_some_iff.1 h).1
 rw [List.append_assoc (L ++ A), List.getElem?_append_right (by omega), List.getElem?_append_left (by omega)]
 rw [show (L ++ A).length + i - (L ++ A).length = i by omega]; exact h
theorem cut_of {lt : Pod → Pod → Bool} (hO : Ord lt) {A B : List Pod} {a md st : Nat} (sA : Srt lt A) (sB : Srt lt B) (h1 : a ≤ st) (h2 : st ≤ a + A.length) (h3 : st ≤ md) (h4 : md ≤ st + B.length)
  (k1 : st = a ∨ md = st + B.length ∨ ∃ i j x y, i + 1 + a = st ∧ j + st = md ∧ A[i]? = some x ∧ B[j]? = some y ∧ lt y x = false)
  (k2 : st = a + A.length ∨ st = md ∨ ∃ i j x y, i + a = st ∧ j + 1 + st = md ∧ A[i]? = some x ∧ B[j]? = some y ∧ lt y x = true) :
  ∃ A1 A2 B1 B2, A = A1 ++ A2 ∧ B = B1 ++ B2 ∧ A1.length + a = st ∧ B1.length + st = md ∧ ∀ C1 C2 : List Pod, C1.Perm (A1 ++ B1) → C2.Perm (A2 ++ B2) → Srt lt C1 → Srt lt C2 → Srt lt (C1 ++ C2) := by
 refine ⟨A.take (st - a), A.drop (st - a), B.take (md - st), B.drop (md - st), by simp, by simp, by simp; omega, by simp; omega, fun C1 C2 p1 p2 s1 s2 => ?_⟩
 refine cut_ok hO (by simpa using sA) (by simpa using sB) (fun x y hx hy => ?_) (fun x y hx hy => ?_) p1 p2 s1 s2
 ·rw [last_take (by omega)] at hx
  rw [head_drop] at hy
  split at hx
  ·cases hx
  ·rcases k1 with k | k | ⟨i, j, x', y', f1, f2, e1, e2, e3⟩
   ·omega
   ·rw [List.getElem?_eq_none (by omega)] at hy; cases hy
   ·rw [show st - a - 1 = i by omega, e1] at hx
    rw [show md - st = j by omega, e2] at hy
    obtain rfl := Option.some.inj hx
    obtain rfl := Option.some.inj hy
    exact e3
 ·rw [last_take (by omega)] at hx
  rw [head_drop] at hy
  split at hx
  ·cases hx
  ·rcases k2 with k | k | ⟨i, j, x', y', f1, f2, e1, e2, e3⟩
   ·rw [List.getElem?_eq_none (by omega)] at hy; cases hy
   ·omega
   ·rw [show md - st - 1 = j by omega, e2] at hx
    rw [show st - a = i by omega, e1] at hy
    obtain rfl := Option.some.inj hx
    obtain rfl := Option.some.inj hy
    exact e3
theorem half_in {st r u q : Nat} (h : st < r) (hu : u = st + r) (hq : q = u / 2) : st ≤ q ∧ q < r := by omega
structure CutF (g : FuncId) (cf : Pod → Pod → Int) (L A B R : List Pod) (a m b md st e : Nat) (A1 A2 B1 B2 : List Pod) : Prop where
 c1 : (decide (st < m) = false ∧ L ++ A ++ B ++ R = L ++ A1 ++ B1 ++ A2 ++ B2 ++ R) ∨ (decide (st < m) = true ∧ decide (m < e) = false ∧ L ++ A ++ B ++ R = L ++ A1 ++ B1 ++ A2 ++ B2 ++ R) ∨
  (decide (st < m) = true ∧ decide (m < e) = true ∧ ACalls env 184 [.sfull 0, .d (.int .i64 (st : Nat)), .d (.int .i64 (m : Nat)), .d (.int .i64 (e : Nat)), .d (.func g [])] [.arr 26 9 (pods (L ++ A ++ B ++ R))] fun r H' => r = .d (.tup []) ∧ H' = [.arr 26 9 (pods (L ++ A1 ++ B1 ++ A2 ++ B2 ++ R))])
 c2 : (decide (a < st) = false ∧ Srt (ltC cf) (A1 ++ B1)) ∨ (decide (a < st) = true ∧ decide (st < md) = false ∧ Srt (ltC cf) (A1 ++ B1)) ∨
  (decide (a < st) = true ∧ decide (st < md) = true ∧ ACalls env 172 [.sfull 0, .d (.int .i64 ((a : Nat) : Int)), .d (.int .i64 ((st : Nat) : Int)), .d (.int .i64 ((md : Nat) : Int)), .d (.func g [])] [.arr 26 9 (pods (L ++ A1 ++ B1 ++ A2 ++ B2 ++ R))] fun r H' => r = .d (.tup []) ∧ ∃ C1, C1.Perm (A1 ++ B1) ∧ Srt (ltC cf) C1 ∧ H' = [.arr 26 9 (pods (L ++ C1 ++ A2 ++ B2 ++ R))])
 c3 : ∀ C1 : List Pod, C1.Perm (A1 ++ B1) → Srt (ltC cf) C1 → (decide (md < e) = false ∧ (C1 ++ A2 ++ B2).Perm (A ++ B) ∧ Srt (ltC cf) (C1 ++ A2 ++ B2)) ∨ (decide (md < e) = true ∧ decide (e < b) = false ∧ (C1 ++ A2 ++ B2).Perm (A ++ B) ∧ Srt (ltC cf) (C1 ++ A2 ++ B2)) ∨
  (decide (md < e) = true ∧ decide (e < b) = true ∧ ACalls env 172 [.sfull 0, .d (.int .i64 ((md : Nat) : Int)), .d (.int .i64 ((e : Nat) : Int)), .d (.int .i64 ((b : Nat) : Int)), .d (.func g [])] [.arr 26 9 (pods (L ++ C1 ++ A2 ++ B2 ++ R))] fun r H' => r = .d (.tup []) ∧ ∃ C, C.Perm (A ++ B) ∧ Srt (ltC cf) C ∧ H' = [.arr 26 9 (pods (L ++ C ++ R))])
theorem cut_facts {g : FuncId} {cf : Pod → Pod → Int} (hO : Ord (ltC cf)) {N : Nat}
  (ih : ∀ {L A B R : List Pod} {a m b : Nat}, (A ++ B).length ≤ N → a = L.length → m = (L ++ A).length → b = (L ++ A ++ B).length → A ≠ [] → B ≠ [] → Srt (ltC cf) A → Srt (ltC cf) B → (L ++ A ++ B ++ R).length ≤ 1000000 → ACalls env 172 [.sfull 0, .d (.int .i64 ((a : Nat) : Int)), .d (.int .i64 ((m : Nat) : Int)), .d (.int .i64 ((b : Nat) : Int)), .d (.func g [])] [.arr 26 9 (pods (L ++ A ++ B ++ R))] fun r H' => r = .d (.tup []) ∧ ∃ C, C.Perm (A ++ B) ∧ Srt (ltC cf) C ∧ H' = [.arr 26 9 (pods (L ++ C ++ R))])
  {L A B R A1 A2 B1 B2 : List Pod} {a m b md st e : Nat} (eA : A = A1 ++ A2) (eB : B = B1 ++ B2) (ha : a = L.length) (hm : m = a + A.length) (hb : b = m + B.length) (l1 : A1.length + a = st) (l2 : B1.length + st = md) (h1 : a ≤ st) (h3 : st ≤ md) (he : e + st = md + m)
  (hN1 : md ≤ N + a) (hN2 : A.length + B.length + a ≤ N + md) (sA : Srt (ltC cf) A) (sB : Srt (ltC cf) B) (hl : (L ++ A ++ B ++ R).length ≤ 1000000)
  (hcut : ∀ C1 C2 : List Pod, C1.Perm (A1 ++ B1) → C2.Perm (A2 ++ B2) → Srt (ltC cf) C1 → Srt (ltC cf) C2 → Srt (ltC cf) (C1 ++ C2)) : CutF g cf L A B R a m b md st e A1 A2 B1 B2 := by
 have eAl : A.length = A1.length + A2.length := by rw [eA]; simp
 have eBl : B.length = B1.length + B2.length := by rw [eB]; simp
 have hl' : L.length + A.length + B.length + R.length ≤ 1000000 := by simpa [Nat.add_assoc] using hl
 have sA1 := (srt_append.1 (eA ▸ sA)).1
 have sA2 := (srt_append.1 (eA ▸ sA)).2.1
 have sB1 := (srt_append.1 (eB ▸ sB)).1
 have sB2 := (srt_append.1 (eB ▸ sB)).2.1
 have fin : ∀ C1 C2 : List Pod, C1.Perm (A1 ++ B1) → C2.Perm (A2 ++ B2) → (C1 ++ C2).Perm (A ++ B) := fun C1 C2 p1 p2 => by
  refine (p1.append p2).trans ?_
  rw [eA, eB, List.append_assoc, List.append_assoc]
  refine List.Perm.append_left A1 ?_
  rw [← List.append_assoc, ← List.append_assoc]
  exact List.perm_append_comm.append_right B2
 refine ⟨?_, ?_, fun C1 p1 s1 => ?_⟩
 ·rcases Nat.lt_or_ge st m with q1 | q1
  ·rcases Nat.lt_or_ge m e with q2 | q2
   ·refine .inr (.inr ⟨decide_eq_true q1, decide_eq_true q2, ?_⟩)
    have := rot_ok g (L := L ++ A1) (A := A2) (B := B1) (R := B2 ++ R) (a := st) (m := m) (b := e) (by rw [List.length_append]; omega) (by simp only [List.length_append]; omega) (by simp only [List.length_append]; omega) (List.length_pos_iff.1 (by omega)) (List.length_pos_iff.1 (by omega)) (by simp only [List.length_append]; omega)
    rw [show L ++ A ++ B ++ R = L ++ A1 ++ A2 ++ B1 ++ (B2 ++ R) by rw [eA, eB]; simp, show L ++ A1 ++ B1 ++ A2 ++ B2 ++ R = L ++ A1 ++ B1 ++ A2 ++ (B2 ++ R) by simp]
    exact this
   ·obtain rfl : B1 = [] := List.eq_nil_of_length_eq_zero (by omega)
    exact .inr (.inl ⟨decide_eq_true q1, decide_eq_false (by omega), by rw [eA, eB]; simp⟩)
  ·obtain rfl : A2 = [] := List.eq_nil_of_length_eq_zero (by omega)
   exact .inl ⟨decide_eq_false (by omega), by rw [eA, eB]; simp⟩
 ·rcases Nat.lt_or_ge a st with q1 | q1
  ·rcases Nat.lt_or_ge st md with q2 | q2
   ·refine .inr (.inr ⟨decide_eq_true q1, decide_eq_true q2, ?_⟩)
    have := ih (L := L) (A := A1) (B := B1) (R := A2 ++ B2 ++ R) (a := a) (m := st) (b := md) (by rw [List.length_append]; omega) ha (by rw [List.length_append]; omega) (by simp only [List.length_append]; omega) (List.length_pos_iff.1 (by omega)) (List.length_pos_iff.1 (by omega)) sA1 sB1 (by simp only [List.length_append]; omega)
    simp only [← List.append_assoc] at this
    exact this
   ·obtain rfl : B1 = [] := List.eq_nil_of_length_eq_zero (by omega)
    exact .inr (.inl ⟨decide_eq_true q1, decide_eq_false (by omega), by rw [List.append_nil]; exact sA1⟩)
  ·obtain rfl : A1 = [] := List.eq_nil_of_length_eq_zero (by omega)
   exact .inl ⟨decide_eq_false (by omega), by rw [List.nil_append]; exact sB1⟩
 ·have lC1 := p1.length_eq
  rw [List.length_append] at lC1
  rcases Nat.lt_or_ge md e with q1 | q1
  ·rcases Nat.lt_or_ge e b with q2 | q2
   ·refine .inr (.inr ⟨decide_eq_true q1, decide_eq_true q2, ?_⟩)
    have := ih (L := L ++ C1) (A := A2) (B := B2) (R := R) (a := md) (m := e) (b := b) (by rw [List.length_append]; omega) (by rw [List.length_append]; omega) (by simp only [List.length_append]; omega) (by simp only [List.length_append]; omega) (List.length_pos_iff.1 (by omega)) (List.length_pos_iff.1 (by omega)) sA2 sB2 (by simp only [List.length_append]; omega)
    refine this.mono ?_
    rintro r H' ⟨h1, C2, p2, s2, rfl⟩
    exact ⟨h1, C1 ++ C2, fin C1 C2 p1 p2, hcut C1 C2 p1 p2 s1 s2, by simp⟩
   ·obtain rfl : B2 = [] := List.eq_nil_of_length_eq_zero (by omega)
    refine .inr (.inl ⟨decide_eq_true q1, decide_eq_false (by omega), ?_, ?_⟩)
    ·rw [List.append_assoc]; exact fin C1 _ p1 (List.Perm.refl _)
    ·rw [List.append_assoc]; exact hcut C1 _ p1 (List.Perm.refl _) s1 (by rw [List.append_nil]; exact sA2)
  ·obtain rfl : A2 = [] := List.eq_nil_of_length_eq_zero (by omega)
   refine .inl ⟨decide_eq_false (by omega), ?_, ?_⟩
   ·rw [List.append_assoc]; exact fin C1 _ p1 (List.Perm.refl _)
   ·rw [List.append_assoc]; exact hcut C1 _ p1 (List.Perm.refl _) s1 (by rw [List.nil_append]; exact sB2)
/-! The code behind the search, cut in three: each part is walked with what comes behind it held fast. -/
def frA (g : FuncId) (a m b md n st : Nat) (z : Nat → AV) : List AV := [.sfull 0, .d (.int .i64 ((a : Nat) : Int)), .d (.int .i64 ((m : Nat) : Int)), .d (.int .i64 ((b : Nat) : Int)), .d (.func g []), z 5, z 6, z 7, z 8, z 9, z 10, z 11, z 12, z 13, z 14, z 15, z 16, z 17, .d (.int .i64 ((md : Nat) : Int)), .d (.int .i64 ((n : Nat) : Int)), .d (.int .i64 ((st : Nat) : Int)), z 21, z 22, z 23, z 24, z 25, z 26, z 27, z 28, z 29, z 30, z 31, z 32, z 33, z 34, z 35, z 36, z 37, z 38, z 39, z 40, z 41, z 42, z 43, z 44, z 45, z 46, z 47, z 48, z 49, z 50, z 51, z 52, z 53, z 54, z 55, z 56, z 57, z 58, z 59, z 60, z 61, z 62, z 63, z 64, z 65, z 66, z 67, z 68, z 69, z 70, z 71, z 72, z 73, z 74, z 75, z 76, z 77, z 78, z 79, z 80, z 81, z 82, z 83, z 84, z 85, z 86, z 87, z 88, z 89, z 90, z 91, z 92, z 93, z 94, z 95, z 96, z 97, z 98, z 99, z 100, z 101, z 102, z 103, z 104, z 105, z 106, z 107, z 108, z 109, z 110, z 111, z 112, z 113, z 114, z 115, z 116, z 117, z 118, z 119, z 120, z 121, z 122, z 123, z 124, z 125, z 126, z 127, z 128, z 129, z 130, z 131, z 132, z 133, z 134, z 135, z 136, z 137, z 138, z 139, z 140, z 141, z 142, z 143, z 144, z 145, z 146, z 147, z 148, z 149, z 150, z 151, z 152, z 153, z 154, z 155, z 156, z 157, z 158, z 159, z 160, z 161, z 162, z 163, z 164, z 165, z 166, z 167, z 168, z 169, z 170, z 171, z 172, z 173, z 174, z 175, z 176, z 177, z 178, z 179, z 180, z 181, z 182, z 183, z 184, z 185, z 186, z 187, z 188, z 189, z 190, z 191, z 192, z 193, z 194, z 195, z 196, z 197, z 198, z 199, z 200, z 201, z 202, z 203, z 204, z 205, z 206, z 207, z 208, z 209, z 210, z 211, z 212, z 213, z 214, z 215, z 216, z 217, z 218, z 219]
def frB (g : FuncId) (a m b md n st e : Nat) (z : Nat → AV) : List AV := [.sfull 0, .d (.int .i64 ((a : Nat) : Int)), .d (.int .i64 ((m : Nat) : Int)), .d (.int .i64 ((b : Nat) : Int)), .d (.func g []), z 5, z 6, z 7, z 8, z 9, z 10, z 11, z 12, z 13, z 14, z 15, z 16, z 17, .d (.int .i64 ((md : Nat) : Int)), .d (.int .i64 ((n : Nat) : Int)), .d (.int .i64 ((st : Nat) : Int)), z 21, z 22, z 23, .d (.int .i64 ((e : Nat) : Int)), z 25, z 26, z 27, z 28, z 29, z 30, z 31, z 32, z 33, z 34, z 35, z 36, z 37, z 38, z 39, z 40, z 41, z 42, z 43, z 44, z 45, z 46, z 47, z 48, z 49, z 50, z 51, z 52, z 53, z 54, z 55, z 56, z 57, z 58, z 59, z 60, z 61, z 62, z 63, z 64, z 65, z 66, z 67, z 68, z 69, z 70, z 71, z 72, z 73, z 74, z 75, z 76, z 77, z 78, z 79, z 80, z 81, z 82, z 83, z 84, z 85, z 86, z 87, z 88, z 89, z 90, z 91, z 92, z 93, z 94, z 95, z 96, z 97, z 98, z 99, z 100, z 101, z 102, z 103, z 104, z 105, z 106, z 107, z 108, z 109, z 110, z 111, z 112, z 113, z 114, z 115, z 116, z 117, z 118, z 119, z 120, z 121, z 122, z 123, z 124, z 125, z 126, z 127, z 128, z 129, z 130, z 131, z 132, z 133, z 134, z 135, z 136, z 137, z 138, z 139, z 140, z 141, z 142, z 143, z 144, z 145, z 146, z 147, z 148, z 149, z 150, z 151, z 152, z 153, z 154, z 155, z 156, z 157, z 158, z 159, z 160, z 161, z 162, z 163, z 164, z 165, z 166, z 167, z 168, z 169, z 170, z 171, z 172, z 173, z 174, z 175, z 176, z 177, z 178, z 179, z 180, z 181, z 182, z 183, z 184, z 185, z 186, z 187, z 188, z 189, z 190, z 191, z 192, z 193, z 194, z 195, z 196, z 197, z 198, z 199, z 200, z 201, z 202, z 203, z 204, z 205, z 206, z 207, z 208, z 209, z 210, z 211, z 212, z 213, z 214, z 215, z 216, z 217, z 218, z 219]
section
variable {g : FuncId} {cf : Pod → Pod → Int} {L A B R A1 A2 B1 B2 : List Pod} {a m b md n st e : Nat} {Q : Q3} {kA kB k24 k25 k26 k27 k32 kL k38 kS1 kS2 kS3 : Code}
set_option maxRecDepth 8000 in
theorem tail3 (hc : Tryz.f172.body = some (kA.seq (kB.seq (k24.seq (k25.seq (k26.seq (k27.seq (k32.seq (kL.seq (k38.seq (kS1.seq (kS2.seq kS3)))))))))))) (hF : CutF g cf L A B R a m b md st e A1 A2 B1 B2) {C1 : List Pod} (p1 : C1.Perm (A1 ++ B1)) (s1 : Srt (ltC cf) C1)
  (hQ : ∀ (t : List AV) (C : List Pod), C.Perm (A ++ B) → Srt (ltC cf) C → Q .normal t [.arr 26 9 (pods (L ++ C ++ R))] []) (z : Nat → AV) :
  awpL env 1 false kS3 Q (frB g a m b md n st e z) [.arr 26 9 (pods (L ++ C1 ++ A2 ++ B2 ++ R))] [] := by
 cases hc
 unfold frB
 rcases hF.c3 C1 p1 s1 with ⟨q5, p2, s2⟩ | ⟨q5, q6, p2, s2⟩ | ⟨q5, q6, hc3⟩
 ·simp only [q5, push_cast, simprocAttr, fP, pL]
  rw [show L ++ C1 ++ A2 ++ B2 ++ R = L ++ (C1 ++ A2 ++ B2) ++ R by simp]
  exact hQ _ _ p2 s2
 ·simp only [q5, q6, push_cast, simprocAttr, fP, pL]
  rw [show L ++ C1 ++ A2 ++ B2 ++ R = L ++ (C1 ++ A2 ++ B2) ++ R by simp]
  exact hQ _ _ p2 s2
 ·simp only [q5, q6, push_cast, simprocAttr, fP, pL]
  refine hc3.atK [0] (by simp [PV, fP, pL, sl, pods_length, sbl, ren_none, ren_var, ren_arr, ren_map, ren_mapb, ren_iter, ren_loop, ren_defr, bel_none, bel_var, bel_arr, bel_map, bel_mapb, bel_iter, bel_loop, bel_defr, AV.renL, AV.ren, AV.belL, AV.bel, rn]) (by simp) (by simp [PV, fP, pL, sl, pods_length]) (by simp [PV, fP, pL, sl, pods_length, AV.ren, AV.renL, rn]) (by simp [AV.belL, AV.bel]) ?_
  rintro r' H' ⟨rfl, C, p2, s2, rfl⟩
  refine WK.now ?_
  simp only [push_cast, simprocAttr, fP, pL]
  exact hQ _ _ p2 s2
set_option maxRecDepth 8000 in
theorem tail2 (hc : Tryz.f172.body = some (kA.seq (kB.seq (k24.seq (k25.seq (k26.seq (k27.seq (k32.seq (kL.seq (k38.seq (kS1.seq (kS2.seq kS3)))))))))))) (hF : CutF g cf L A B R a m b md st e A1 A2 B1 B2)
  (hQ : ∀ (t : List AV) (C : List Pod), C.Perm (A ++ B) → Srt (ltC cf) C → Q .normal t [.arr 26 9 (pods (L ++ C ++ R))] []) (z : Nat → AV) :
  awpL env 1 false (kS2.seq kS3) Q (frB g a m b md n st e z) [.arr 26 9 (pods (L ++ A1 ++ B1 ++ A2 ++ B2 ++ R))] [] := by
 have ht3 : ∀ (C1 : List Pod), C1.Perm (A1 ++ B1) → Srt (ltC cf) C1 → ∀ t, t = frB g a m b md n st e (fun i => t.getD i .x) → awpL env 1 false kS3 Q t [.arr 26 9 (pods (L ++ C1 ++ A2 ++ B2 ++ R))] [] := fun C1 p s t ht => by
  rw [ht]; exact tail3 hc hF p s hQ _
 obtain ⟨c3, hc3⟩ : ∃ c, c = kS3 := ⟨_, rfl⟩
 rw [← hc3] at ht3 ⊢
 cases hc
 clear hc3
 unfold frB
 rcases hF.c2 with ⟨q3, s1⟩ | ⟨q3, q4, s1⟩ | ⟨q3, q4, hc2⟩
 ·have e1 : L ++ A1 ++ B1 ++ A2 ++ B2 ++ R = L ++ (A1 ++ B1) ++ A2 ++ B2 ++ R := by simp
  rw [e1]
  simp only [q3, push_cast, simprocAttr, fP, pL]
  exact ht3 _ (List.Perm.refl _) s1 _ (by kernel_rfl)
 ·have e1 : L ++ A1 ++ B1 ++ A2 ++ B2 ++ R = L ++ (A1 ++ B1) ++ A2 ++ B2 ++ R := by simp
  rw [e1]
  simp only [q3, q4, push_cast, simprocAttr, fP, pL]
  exact ht3 _ (List.Perm.refl _) s1 _ (by kernel_rfl)
 ·simp only [q3, q4, push_cast, simprocAttr, fP, pL]
  refine hc2.atK [0] (by simp [PV, fP, pL, sl, pods_length, sbl, ren_none, ren_var, ren_arr, ren_map, ren_mapb, ren_iter, ren_loop, ren_defr, bel_none, bel_var, bel_arr, bel_map, bel_mapb, bel_iter, bel_loop, bel_defr, AV.renL, AV.ren, AV.belL, AV.bel, rn]) (by simp) (by simp [PV, fP, pL, sl, pods_length]) (by simp [PV, fP, pL, sl, pods_length, AV.ren, AV.renL, rn]) (by simp [AV.belL, AV.bel]) ?_
  rintro r' H' ⟨rfl, C1, p1, s1', rfl⟩
  refine WK.now ?_
  simp only [push_cast, simprocAttr, fP, pL]
  exact ht3 _ p1 s1' _ (by kernel_rfl)
set_option maxRecDepth 8000 in
theorem tail1 (hc : Tryz.f172.body = some (kA.seq (kB.seq (k24.seq (k25.seq (k26.seq (k27.seq (k32.seq (kL.seq (k38.seq (kS1.seq (kS2.seq kS3)))))))))))) (hF : CutF g cf L A B R a m b md st e A1 A2 B1 B2) (z6 : IntKind.wrap .i64 ((n : Int) - (st : Int)) = (e : Int))
  (hQ : ∀ (t : List AV) (C : List Pod), C.Perm (A ++ B) → Srt (ltC cf) C → Q .normal t [.arr 26 9 (pods (L ++ C ++ R))] []) (z : Nat → AV) :
  awpL env 1 false (k38.seq (kS1.seq (kS2.seq kS3))) Q (frA g a m b md n st z) [.arr 26 9 (pods (L ++ A ++ B ++ R))] [] := by
 have ht2 : ∀ t, t = frB g a m b md n st e (fun i => t.getD i .x) → awpL env 1 false (kS2.seq kS3) Q t [.arr 26 9 (pods (L ++ A1 ++ B1 ++ A2 ++ B2 ++ R))] [] := fun t ht => by
  rw [ht]; exact tail2 hc hF hQ _
 obtain ⟨c2, hc2⟩ : ∃ c, c = kS2.seq kS3 := ⟨_, rfl⟩
 rw [← hc2] at ht2 ⊢
 cases hc
 clear hc2
 unfold frA
 rcases hF.c1 with ⟨q1, e1⟩ | ⟨q1, q2, e1⟩ | ⟨q1, q2, hc1⟩
 ·rw [e1]
  simp only [z6, q1, push_cast, simprocAttr, fP, pL]
  exact ht2 _ (by kernel_rfl)
 ·rw [e1]
  simp only [z6, q1, q2, push_cast, simprocAttr, fP, pL]
  exact ht2 _ (by kernel_rfl)
 ·simp only [z6, q1, q2, push_cast, simprocAttr, fP, pL]
  refine hc1.at [0] (by simp [PV, fP, pL, sl, pods_length, sbl, ren_none, ren_var, ren_arr, ren_map, ren_mapb, ren_iter, ren_loop, ren_defr, bel_none, bel_var, bel_arr, bel_map, bel_mapb, bel_iter, bel_loop, bel_defr, AV.renL, AV.ren, AV.belL, AV.bel, rn]) (by simp) (by simp [PV, fP, pL, sl, pods_length]) (by simp [PV, fP, pL, sl, pods_length, AV.ren, AV.renL, rn]) (by simp [AV.belL, AV.bel]) (WK.now ?_)
  simp only [push_cast, simprocAttr, fP, pL]
  exact ht2 _ (by kernel_rfl)
theorem tail_go (hc : Tryz.f172.body = some (kA.seq (kB.seq (k24.seq (k25.seq (k26.seq (k27.seq (k32.seq (kL.seq (k38.seq (kS1.seq (kS2.seq kS3)))))))))))) (hF : CutF g cf L A B R a m b md st e A1 A2 B1 B2) (z6 : IntKind.wrap .i64 ((n : Int) - (st : Int)) = (e : Int))
  (hQ : ∀ (t : List AV) (C : List Pod), C.Perm (A ++ B) → Srt (ltC cf) C → Q .normal t [.arr 26 9 (pods (L ++ C ++ R))] []) :
  ∀ t, t = frA g a m b md n st (fun i => t.getD i .x) → awpL env 1 false (k38.seq (kS1.seq (kS2.seq kS3))) Q t [.arr 26 9 (pods (L ++ A ++ B ++ R))] [] := fun t ht => by
 rw [ht]; exact tail1 hc hF z6 hQ _
end
set_option maxRecDepth 8000 in
set_option maxHeartbeats 2000000 in
theorem sym_ok {g : FuncId} {cf : Pod → Pod → Int} (hc : CmpOk g cf) (hO : Ord (ltC cf)) : ∀ (N : Nat) {L A B R : List Pod} {a m b : Nat}, (A ++ B).length ≤ N → a = L.length → m = (L ++ A).length → b = (L ++ A ++ B).length → A ≠ [] → B ≠ [] → Srt (ltC cf) A → Srt (ltC cf) B → (L ++ A ++ B ++ R).length ≤ 1000000 →
  ACalls env 172 [.sfull 0, .d (.int .i64 (a : Nat)), .d (.int .i64 (m : Nat)), .d (.int .i64 (b : Nat)), .d (.func g [])] [.arr 26 9 (pods (L ++ A ++ B ++ R))] fun r H' => r = .d (.tup []) ∧ ∃ C, C.Perm (A ++ B) ∧ Srt (ltC cf) C ∧ H' = [.arr 26 9 (pods (L ++ C ++ R))]
 | 0, L, A, B, R, a, m, b, hN, _, _, _, hA, _, _, _, _ => absurd (List.eq_nil_of_length_eq_zero (by rw [List.length_append] at hN; omega)) hA
 | N + 1, L, A, B, R, a, m, b, hN, ha, hm, hb, hA, hB, sA, sB, hl => by
  have ih := @sym_ok g cf hc hO N
  have hm' : m = a + A.length := by rw [hm, ha]; simp
  have hb' : b = m + B.length := by rw [hb, hm]; simp; omega
  have hAp : 0 < A.length := List.length_pos_iff.2 hA
  have hBp : 0 < B.length := List.length_pos_iff.2 hB
  by_cases hA1 : A.length = 1
  ·obtain ⟨x, rfl⟩ := List.length_eq_one_iff.1 hA1
   have := sym_one (R := R) hc hO (x := x) ha (by simpa using hm') hb' sB (by simpa using hl)
   simpa using this
  by_cases hB1 : B.length = 1
  ·obtain ⟨x, rfl⟩ := List.length_eq_one_iff.1 hB1
   have := sym_two (R := R) hc hO (x := x) ha hm' hA1 (by simpa using hb') sA (by simpa using hl)
   simpa using this
  have hl' : L.length + A.length + B.length + R.length ≤ 1000000 := by simpa [Nat.add_assoc] using hl
  have hN' : A.length + B.length ≤ N + 1 := by simpa using hN
  have hx := hc.ext
  have hcall := hc.call
  obtain ⟨al, hal⟩ : ∃ al, al = A.length := ⟨_, rfl⟩
  obtain ⟨be, hbe⟩ : ∃ be, be = B.length := ⟨_, rfl⟩
  have w0 : IntKind.wrap .i64 ((m : Int) - (a : Int)) = (al : Int) := by rw [wrapi (by omega) (by omega)]; omega
  have b0 : ((al : Int) == 1) = false := by simp; omega
  have w0' : IntKind.wrap .i64 ((b : Int) - (m : Int)) = (be : Int) := by rw [wrapi (by omega) (by omega)]; omega
  have b0' : ((be : Int) == 1) = false := by simp; omega
  obtain ⟨s, hs⟩ : ∃ s, s = a + b := ⟨_, rfl⟩
  obtain ⟨md, hmd⟩ : ∃ md, md = s / 2 := ⟨_, rfl⟩
  obtain ⟨n, hn⟩ : ∃ n, n = md + m := ⟨_, rfl⟩
  obtain ⟨p, hp⟩ : ∃ p, p + 1 = n := ⟨n - 1, by omega⟩
  have w1 : IntKind.wrap .i64 ((a : Int) + (b : Int)) = (s : Int) := by rw [wrapi (by omega) (by omega)]; omega
  have w2 := mid_wrap (s := s) (by omega)
  have w3 := mid_half hmd (by omega)
  have w4 : IntKind.wrap .i64 ((md : Int) + (m : Int)) = (n : Int) := by rw [wrapi (by omega) (by omega)]; omega
  have w5 : IntKind.wrap .i64 ((n : Int) - 1) = (p : Int) := by rw [wrapi (by omega) (by omega)]; omega
  have hN1 : md ≤ N + a := by omega
  have hN2 : A.length + B.length + a ≤ N + md := by omega
  have hmdb : a ≤ md ∧ md ≤ b := by omega
  obtain ⟨s0, r0, hsr, hcase⟩ : ∃ s0 r0 : Nat, ((s0 = a ∨ s0 + b = n) ∧ (r0 = m ∨ r0 = md) ∧ a ≤ s0 ∧ s0 ≤ r0 ∧ n ≤ s0 + b ∧ r0 ≤ m ∧ r0 ≤ md) ∧ ((decide (md < m) = true ∧ IntKind.wrap .i64 ((n : Int) - (b : Int)) = (s0 : Int) ∧ md = r0) ∨ (decide (md < m) = false ∧ a = s0 ∧ m = r0)) := by
   by_cases hmm : md < m
   ·exact ⟨n - b, md, by omega, .inl ⟨decide_eq_true hmm, by rw [wrapi (by omega) (by omega)]; omega, rfl⟩⟩
   ·exact ⟨a, m, by omega, .inr ⟨decide_eq_false hmm, rfl, rfl⟩⟩
  obtain ⟨hs0, hr0, hs1, hs2, hs3, hr1, hr2⟩ := hsr
  have hb1 : b ≤ 1000000 := by omega
  clear hs hmd hN hN' hA1 hB1 hA hB
  refine acalls_of envOk Tryz.func172 rfl (by kernel_rfl) (m := 215) rfl ?_
  simp only [w0, b0, w0', b0', w1, w2, w3, w4, push_cast, simprocAttr, pods_length, fP, pL]
  rcases hcase with ⟨bm, wS, hr⟩ | ⟨bm, hsa, hr⟩
  case' inl =>
   simp only [bm, wS, w5, push_cast, simprocAttr, fP, pL]
   refine ALoop.mk (fun k t H ds => ∃ (st r : Nat), k = r - st ∧ s0 ≤ st ∧ st ≤ r ∧ r ≤ r0 ∧ (st = s0 ∨ ∃ i j x y, i + 1 + a = st ∧ j + st = md ∧ A[i]? = some x ∧ B[j]? = some y ∧ ltC cf y x = false) ∧ (r = r0 ∨ ∃ i j x y, i + a = r ∧ j + 1 + r = md ∧ A[i]? = some x ∧ B[j]? = some y ∧ ltC cf y x = true) ∧ t = (.sfull 0 :: .d (.int .i64 (a : Nat)) :: .d (.int .i64 (m : Nat)) :: .d (.int .i64 (b : Nat)) :: .d (.func g []) :: .x :: .x :: .x :: .x :: .x :: .x :: .x :: .x :: .x :: .x :: .x :: .x :: .x :: .d (.int .i64 (md : Nat)) :: .d (.int .i64 (n : Nat)) :: .d (.int .i64 (st : Nat)) :: .d (.int .i64 (r : Nat)) :: .d (.int .i64 (p : Nat)) :: xs197) ∧ H = [.arr 26 9 (pods (L ++ A ++ B ++ R))] ∧ ds = []) (r0 - s0) (WK.fgt (t' := (.sfull 0 :: .d (.int .i64 (a : Nat)) :: .d (.int .i64 (m : Nat)) :: .d (.int .i64 (b : Nat)) :: .d (.func g []) :: .x :: .x :: .x :: .x :: .x :: .x :: .x :: .x :: .x :: .x :: .x :: .x :: .x :: .d (.int .i64 (md : Nat)) :: .d (.int .i64 (n : Nat)) :: .d (.int .i64 (s0 : Nat)) :: .d (.int .i64 (r0 : Nat)) :: .d (.int .i64 (p : Nat)) :: xs197)) (by simp [fgt, hr]) (WK.now ⟨s0, r0, rfl, by omega, by omega, by omega, .inl rfl, .inl rfl, rfl, rfl, rfl⟩)) ?_
  case' inr =>
   simp only [bm, w5, push_cast, simprocAttr, fP, pL]
   refine ALoop.mk (fun k t H ds => ∃ (st r : Nat), k = r - st ∧ s0 ≤ st ∧ st ≤ r ∧ r ≤ r0 ∧ (st = s0 ∨ ∃ i j x y, i + 1 + a = st ∧ j + st = md ∧ A[i]? = some x ∧ B[j]? = some y ∧ ltC cf y x = false) ∧ (r = r0 ∨ ∃ i j x y, i + a = r ∧ j + 1 + r = md ∧ A[i]? = some x ∧ B[j]? = some y ∧ ltC cf y x = true) ∧ t = (.sfull 0 :: .d (.int .i64 (a : Nat)) :: .d (.int .i64 (m : Nat)) :: .d (.int .i64 (b : Nat)) :: .d (.func g []) :: .x :: .x :: .x :: .x :: .x :: .x :: .x :: .x :: .x :: .x :: .x :: .x :: .x :: .d (.int .i64 (md : Nat)) :: .d (.int .i64 (n : Nat)) :: .d (.int .i64 (st : Nat)) :: .d (.int .i64 (r : Nat)) :: .d (.int .i64 (p : Nat)) :: xs197) ∧ H = [.arr 26 9 (pods (L ++ A ++ B ++ R))] ∧ ds = []) (r0 - s0) (WK.fgt (t' := (.sfull 0 :: .d (.int .i64 (a : Nat)) :: .d (.int .i64 (m : Nat)) :: .d (.int .i64 (b : Nat)) :: .d (.func g []) :: .x :: .x :: .x :: .x :: .x :: .x :: .x :: .x :: .x :: .x :: .x :: .x :: .x :: .d (.int .i64 (md : Nat)) :: .d (.int .i64 (n : Nat)) :: .d (.int .i64 (s0 : Nat)) :: .d (.int .i64 (r0 : Nat)) :: .d (.int .i64 (p : Nat)) :: xs197)) (by simp [fgt, hr, hsa]) (WK.now ⟨s0, r0, rfl, by omega, by omega, by omega, .inl rfl, .inl rfl, rfl, rfl, rfl⟩)) ?_
  all_goals
   clear w0 b0 w0' b0' w1 w2 w3 w4 w5 bm
   rintro k t H ds ⟨st, r, rfl, h1, h2, h3, k1, k2, rfl, rfl, rfl⟩
   simp only [push_cast, simprocAttr, fP, pL]
   refine Kbr.mk (fun c => ?_) (fun c => ?_)
   ·have c2 : st < r := by simpa using c
    obtain ⟨u, hu⟩ : ∃ u, u = st + r := ⟨_, rfl⟩
    obtain ⟨q, hq⟩ : ∃ q, q = u / 2 := ⟨_, rfl⟩
    obtain ⟨d1, d2⟩ := half_in c2 hu hq
    have z1 : IntKind.wrap .i64 ((st : Int) + (r : Int)) = (u : Int) := by rw [wrapi (by omega) (by omega)]; omega
    have z2 := mid_wrap (s := u) (by omega)
    have z3 := mid_half hq (by omega)
    clear hu hq
    obtain ⟨w, hw⟩ : ∃ w, w + 1 + q = md := ⟨md - 1 - q, by omega⟩
    obtain ⟨v, hv⟩ : ∃ v, v = m + w := ⟨_, rfl⟩
    obtain ⟨qa, hqa⟩ : ∃ qa, qa + a = q := ⟨q - a, by omega⟩
    have z4 : IntKind.wrap .i64 ((p : Int) - (q : Int)) = (v : Int) := by rw [wrapi (by omega) (by omega)]; omega
    have z5 : IntKind.wrap .i64 ((q : Int) + 1) = ((q + 1 : Nat) : Int) := succ64 (n := 1000001) (by omega) (by omega)
    obtain ⟨x, hxA⟩ : ∃ x, A[qa]? = some x := ⟨_, List.getElem?_eq_getElem (by omega)⟩
    obtain ⟨y, hyB⟩ : ∃ y, B[w]? = some y := ⟨_, List.getElem?_eq_getElem (by omega)⟩
    obtain ⟨ys, hys⟩ : ∃ ys, ys = L ++ A ++ B ++ R := ⟨_, rfl⟩
    have hyl : ys.length = L.length + A.length + B.length + R.length := by rw [hys]; simp only [List.length_append]
    have hql : q < ys.length := by omega
    have hvl : v < ys.length := by omega
    have g1 : ys.getD q pz = x := getD_of_get (by
     have := get_mid (L := L) (B := B) (R := R) hxA
     rw [hys, show q = L.length + qa by omega]; exact this)
    have g2 : ys.getD v pz = y := getD_of_get (by
     have := get_mid2 (L := L) (A := A) (R := R) hyB
     rw [← hm] at this
     rw [hys, hv]; exact this)
    have hcl := hcall y x
    unfold fP pL at hcl
    rw [← hys]
    simp only [z1, z2, z3, push_cast, simprocAttr, fP, pL]
    refine DRegL.det [] [0, 1, 2, 3, 4, 5, 6, 7, 8, 9, 10, 11, 12, 13] [] (by kernel_rfl) (by kernel_rfl) (by kernel_rfl) ?_
    simp only [z4, hql, hvl, seg_pods, g1, g2, hx, push_cast, simprocAttr, fP, pL]
    refine hcl.quiet' (by first | exact ⟨.inl rfl, trivial⟩ | exact ⟨.inl rfl, .inl rfl, trivial⟩ | exact ⟨.inl rfl, .inl rfl, .inl rfl, trivial⟩ | simp [argsOk, argOk, sl, sll]) ?_
    have n1 : r - (q + 1) < r - st := by omega
    have n2 : q - st < r - st := by omega
    have n3 : s0 ≤ q + 1 ∧ q + 1 ≤ r ∧ s0 ≤ q ∧ q ≤ r0 := by omega
    have n4 : qa + 1 + a = q + 1 ∧ w + (q + 1) = md := by omega
    cases hlt : ltC cf y x with
    | false =>
     have b2 : decide (cf y x < 0) = false := hlt
     simp only [b2, z5, push_cast, simprocAttr, fP, pL]
     exact ⟨r - (q + 1), n1, WK.fgt (t' := (.sfull 0 :: .d (.int .i64 (a : Nat)) :: .d (.int .i64 (m : Nat)) :: .d (.int .i64 (b : Nat)) :: .d (.func g []) :: .x :: .x :: .x :: .x :: .x :: .x :: .x :: .x :: .x :: .x :: .x :: .x :: .x :: .d (.int .i64 (md : Nat)) :: .d (.int .i64 (n : Nat)) :: .d (.int .i64 (q + 1 : Nat)) :: .d (.int .i64 (r : Nat)) :: .d (.int .i64 (p : Nat)) :: xs197)) (by simp [fgt]) (WK.now ⟨q + 1, r, rfl, n3.1, n3.2.1, h3, .inr ⟨qa, w, x, y, n4.1, n4.2, hxA, hyB, hlt⟩, k2, rfl, by rw [hys], rfl⟩)⟩
    | true =>
     have b2 : decide (cf y x < 0) = true := hlt
     simp only [b2, push_cast, simprocAttr, fP, pL]
     exact ⟨q - st, n2, WK.fgt (t' := (.sfull 0 :: .d (.int .i64 (a : Nat)) :: .d (.int .i64 (m : Nat)) :: .d (.int .i64 (b : Nat)) :: .d (.func g []) :: .x :: .x :: .x :: .x :: .x :: .x :: .x :: .x :: .x :: .x :: .x :: .x :: .x :: .d (.int .i64 (md : Nat)) :: .d (.int .i64 (n : Nat)) :: .d (.int .i64 (st : Nat)) :: .d (.int .i64 (q : Nat)) :: .d (.int .i64 (p : Nat)) :: xs197)) (by simp [fgt]) (WK.now ⟨st, q, rfl, h1, d1, n3.2.2.2, k1, .inr ⟨qa, w, x, y, hqa, hw, hxA, hyB, hlt⟩, rfl, by rw [hys], rfl⟩)⟩
   ·have c2 : ¬ st < r := by simpa using c
    obtain rfl : st = r := by omega
    obtain ⟨A1, A2, B1, B2, eA, eB, lA, lB, hcut⟩ := cut_of (a := a) (md := md) (st := st) hO sA sB (by omega) (by omega) (by omega) (by omega)
     (by rcases k1 with k1 | k1
         ·rcases hs0 with h | h
          ·exact .inl (by omega)
          ·exact .inr (.inl (by omega))
         ·exact .inr (.inr k1))
     (by rcases k2 with k2 | k2
         ·rcases hr0 with h | h
          ·exact .inl (by omega)
          ·exact .inr (.inl (by omega))
         ·exact .inr (.inr k2))
    obtain ⟨e, he⟩ : ∃ e, e + st = n := ⟨n - st, by omega⟩
    have z6 : IntKind.wrap .i64 ((n : Int) - (st : Int)) = (e : Int) := by rw [wrapi (by omega) (by omega)]; omega
    have hF := cut_facts (g := g) hO ih (R := R) eA eB ha hm' hb' lA lB (by omega) (by omega) (show e + st = md + m by omega) hN1 hN2 sA sB hl hcut
    clear k1 k2 hs0 hr0 hcut
    simp only [awpL_exit, Kbr_false, Kbr_true, Qseq_exit, Qloop_exit, Qblk_exit, Qseq_normal, if_true, reduceIte]
    exact tail_go rfl hF z6 (fun t C p1 s1 => by
     simp only [push_cast, simprocAttr, fP, pL]
     refine WK.now ?_
     simp only [push_cast, simprocAttr, fP, pL]
     exact ⟨C, p1, s1, rfl⟩) _ (by kernel_rfl)
end Go.Proofs.YtmeicgbddgeeoaaGreatDoor
end
section
set_option autoImplicit false
set_option linter.unusedVariables false
set_option linter.unusedSimpArgs false
namespace Go.Proofs.YtmeicgbddgeeoaaGreatDoor
open Go.Abs
section
variable {g : FuncId} {cf : Pod → Pod → Int}
theorem iso_part (hc : CmpOk g cf) (hO : Ord (ltC cf)) {ys : List Pod} {a b : Nat} (h1 : a ≤ b) (h2 : b ≤ ys.length) (hl : ys.length ≤ 1000000) :
  ACalls env 171 [.sfull 0, .d (.int .i64 (a : Nat)), .d (.int .i64 (b : Nat)), .d (.func g [])] [.arr 26 9 (pods ys)] fun r H' => r = .d (.tup []) ∧ ∃ zs, PartP ys zs a b ∧ SrtIn (ltC cf) zs a b ∧ H' = [.arr 26 9 (pods zs)] := by
 obtain ⟨L, M, R, rfl, e1, e2, e3⟩ := parts_of h1 h2
 refine (iso_ok hc hO e1.symm e2.symm hl).mono ?_
 rintro r H' ⟨h, M', p, s, rfl⟩
 refine ⟨h, _, ⟨L, M, M', R, rfl, rfl, p, e1, e2⟩, ?_, rfl⟩
 unfold SrtIn
 rw [take_drop_parts L M' R e1.symm (by rw [← e2]; simp [p.length_eq])]
 exact s
theorem sym_part (hc : CmpOk g cf) (hO : Ord (ltC cf)) {ys : List Pod} {a m b : Nat} (h1 : a < m) (h2 : m < b) (h3 : b ≤ ys.length) (hl : ys.length ≤ 1000000) (s1 : SrtIn (ltC cf) ys a m) (s2 : SrtIn (ltC cf) ys m b) :
  ACalls env 172 [.sfull 0, .d (.int .i64 (a : Nat)), .d (.int .i64 (m : Nat)), .d (.int .i64 (b : Nat)), .d (.func g [])] [.arr 26 9 (pods ys)] fun r H' => r = .d (.tup []) ∧ ∃ zs, PartP ys zs a b ∧ SrtIn (ltC cf) zs a b ∧ H' = [.arr 26 9 (pods zs)] := by
 obtain ⟨L, M, R, rfl, e1, e2, e3⟩ := parts_of (show a ≤ b by omega) h3
 obtain ⟨A, B, rfl, lA⟩ : ∃ A B, M = A ++ B ∧ A.length = m - a := ⟨M.take (m - a), M.drop (m - a), by simp, by
  have : M.length = b - a := by simp at e2; omega
  simp; omega⟩
 have lB : B.length = b - m := by simp at e2; omega
 have t1 : (((L ++ (A ++ B) ++ R).take m).drop a) = A := by
  rw [show L ++ (A ++ B) ++ R = L ++ A ++ (B ++ R) by simp]
  exact take_drop_parts L A (B ++ R) e1.symm (by simp; omega)
 have t2 : (((L ++ (A ++ B) ++ R).take b).drop m) = B := by
  rw [show L ++ (A ++ B) ++ R = (L ++ A) ++ B ++ R by simp]
  exact take_drop_parts (L ++ A) B R (by simp; omega) (by simp; omega)
 unfold SrtIn at s1 s2
 rw [t1] at s1
 rw [t2] at s2
 have := sym_ok hc hO (A ++ B).length (L := L) (A := A) (B := B) (R := R) (a := a) (m := m) (b := b) (Nat.le_refl _) e1.symm (by simp; omega) (by simp; omega) (List.length_pos_iff.1 (by omega)) (List.length_pos_iff.1 (by omega)) s1 s2 (by simpa using hl)
 rw [show L ++ (A ++ B) ++ R = L ++ A ++ B ++ R by simp]
 refine this.mono ?_
 rintro r H' ⟨h, C, p, s, rfl⟩
 refine ⟨h, _, ⟨L, A ++ B, C, R, by simp, rfl, p, e1, e2⟩, ?_, rfl⟩
 unfold SrtIn
 rw [take_drop_parts L C R e1.symm (by rw [← e2]; simp [p.length_eq])]
 exact s
end
theorem blk_first {lt : Pod → Pod → Bool} {ys zs : List Pod} {k a s : Nat} (hk : ∀ j, j < k → SrtIn lt ys (j * s) ((j + 1) * s)) (ha : a = k * s) (hn : ys.length ≤ a + s) (hp : PartP ys zs a ys.length) (hs : SrtIn lt zs a ys.length) : Blk lt zs s := fun j => by
 have hl := hp.len
 rcases Nat.lt_trichotomy j k with h | h | h
 ·exact hp.same (.inl (by rw [ha]; exact Nat.mul_le_mul_right s h)) (hk j h)
 ·subst h
  rw [← ha]
  exact hs.over (by omega) (by rw [Nat.succ_mul, ← ha]; omega)
 ·refine SrtIn.beyond ?_
  have : (k + 1) * s ≤ j * s := Nat.mul_le_mul_right s h
  rw [Nat.succ_mul, ← ha] at this
  omega
set_option maxRecDepth 8000 in
theorem stb_ok {g : FuncId} {cf : Pod → Pod → Int} (hc : CmpOk g cf) (hO : Ord (ltC cf)) {xs : List Pod} {n : Nat} (hn : n = xs.length) (hl : n ≤ 1000000) :
  ACalls env 141 [.sfull 0, .d (.int .i64 (n : Nat)), .d (.func g [])] [.arr 26 9 (pods xs)] fun r H' => r = .d (.tup []) ∧ ∃ ys, ys.Perm xs ∧ Srt (ltC cf) ys ∧ H' = [.arr 26 9 (pods ys)] := by
 refine acalls_of envOk Tryz.func141 rfl (by kernel_rfl) (m := 60) rfl ?_
 simp only [push_cast, simprocAttr, fP, pL]
 refine ALoop.mk (fun k t H ds => ∃ (i a b : Nat) (ys : List Pod), k = n - a ∧ a = i * 20 ∧ b = a + 20 ∧ a ≤ n ∧ ys.Perm xs ∧ (∀ j, j < i → SrtIn (ltC cf) ys (j * 20) ((j + 1) * 20)) ∧ t = (.sfull 0 :: .d (.int .i64 (n : Nat)) :: .d (.func g []) :: .x :: .x :: .x :: .d (.int .i64 20) :: .d (.int .i64 (a : Nat)) :: .d (.int .i64 (b : Nat)) :: xs54) ∧ H = [.arr 26 9 (pods ys)] ∧ ds = []) n
  (WK.fgt (t' := (.sfull 0 :: .d (.int .i64 (n : Nat)) :: .d (.func g []) :: .x :: .x :: .x :: .d (.int .i64 20) :: .d (.int .i64 (0 : Nat)) :: .d (.int .i64 (20 : Nat)) :: xs54)) (by simp [fgt]) (WK.now ⟨0, 0, 20, xs, rfl, rfl, rfl, by omega, List.Perm.refl _, by omega, rfl, rfl, rfl⟩)) ?_
 rintro k t H ds ⟨i, a, b, ys, rfl, ha, hb, han, hp, hs, rfl, rfl, rfl⟩
 have hyl : ys.length = n := by rw [hp.length_eq, hn]
 simp only [push_cast, simprocAttr, fP, pL]
 refine Kbr.mk (fun c => ?_) (fun c => ?_)
 ·have c2 : b ≤ n := by simpa using c
  have w1 : IntKind.wrap .i64 ((b : Int) + 20) = (b : Int) + 20 := by rw [wrapi (by omega) (by omega)]
  simp only [push_cast, simprocAttr, fP, pL]
  refine (iso_part hc hO (ys := ys) (a := a) (b := b) (by omega) (by omega) (by omega)).atK [0] (by simp [PV, fP, pL, sl, pods_length, sbl, ren_none, ren_var, ren_arr, ren_map, ren_mapb, ren_iter, ren_loop, ren_defr, bel_none, bel_var, bel_arr, bel_map, bel_mapb, bel_iter, bel_loop, bel_defr, AV.renL, AV.ren, AV.belL, AV.bel, rn]) (by simp) (by simp [PV, fP, pL, sl, pods_length]) (by simp [PV, fP, pL, sl, pods_length, AV.ren, AV.renL, rn]) (by simp [AV.belL, AV.bel]) ?_
  rintro r H' ⟨rfl, zs, p1, s1, rfl⟩
  refine WK.now ?_
  simp only [w1, push_cast, simprocAttr, fP, pL]
  refine ⟨n - b, by omega, WK.fgt (t' := (.sfull 0 :: .d (.int .i64 (n : Nat)) :: .d (.func g []) :: .x :: .x :: .x :: .d (.int .i64 20) :: .d (.int .i64 (b : Nat)) :: .d (.int .i64 (b + 20 : Nat)) :: xs54)) (by simp [fgt]) (WK.now ⟨i + 1, b, b + 20, zs, rfl, by rw [Nat.succ_mul, ← ha, hb], rfl, c2, p1.perm.trans hp, fun j hj => ?_, rfl, rfl, rfl⟩)⟩
  rcases Nat.lt_succ_iff_lt_or_eq.1 hj with h | rfl
  ·exact p1.same (.inl (by rw [ha]; exact Nat.mul_le_mul_right 20 h)) (hs j h)
  ·rw [Nat.succ_mul, ← ha, ← hb]; exact s1
 ·have c2 : ¬ b ≤ n := by simpa using c
  simp only [push_cast, simprocAttr, fP, pL]
  refine (iso_part hc hO (ys := ys) (a := a) (b := n) (by omega) (by omega) (by omega)).atK [0] (by simp [PV, fP, pL, sl, pods_length, sbl, ren_none, ren_var, ren_arr, ren_map, ren_mapb, ren_iter, ren_loop, ren_defr, bel_none, bel_var, bel_arr, bel_map, bel_mapb, bel_iter, bel_loop, bel_defr, AV.renL, AV.ren, AV.belL, AV.bel, rn]) (by simp) (by simp [PV, fP, pL, sl, pods_length]) (by simp [PV, fP, pL, sl, pods_length, AV.ren, AV.renL, rn]) (by simp [AV.belL, AV.bel]) ?_
  rintro r H' ⟨rfl, zs, p1, s1, rfl⟩
  refine WK.now ?_
  have hb1 : Blk (ltC cf) zs 20 := blk_first hs ha (by omega) (by rw [hyl]; exact p1) (by rw [hyl]; exact s1)
  have hp1 := p1.perm.trans hp
  simp only [push_cast, simprocAttr, fP, pL]
  refine ALoop.mk (fun k t H ds => ∃ (s : Nat) (ys : List Pod), k = n - s ∧ 20 ≤ s ∧ s ≤ 2000000 ∧ ys.Perm xs ∧ Blk (ltC cf) ys s ∧ t = (.sfull 0 :: .d (.int .i64 (n : Nat)) :: .d (.func g []) :: .x :: .x :: .x :: .d (.int .i64 (s : Nat)) :: xs56) ∧ H = [.arr 26 9 (pods ys)] ∧ ds = []) (n - 20)
   (WK.fgt (t' := (.sfull 0 :: .d (.int .i64 (n : Nat)) :: .d (.func g []) :: .x :: .x :: .x :: .d (.int .i64 (20 : Nat)) :: xs56)) (by simp [fgt]) (WK.now ⟨20, zs, rfl, by omega, by omega, hp1, hb1, rfl, rfl, rfl⟩)) ?_
  clear hb1 hp1 hs p1 s1 hp hyl ys ha hb han c c2 a b i zs
  rintro k t H ds ⟨s, ys, rfl, hs20, hs2, hp, hb, rfl, rfl, rfl⟩
  have hyl : ys.length = n := by rw [hp.length_eq, hn]
  simp only [push_cast, simprocAttr, fP, pL]
  refine Kbr.mk (fun c => ?_) (fun c => ?_)
  ·have c2 : s < n := by simpa using c
   obtain ⟨u, hu⟩ : ∃ u, u = 2 * s := ⟨_, rfl⟩
   have w1 : IntKind.wrap .i64 (2 * (s : Int)) = (u : Int) := by rw [wrapi (by omega) (by omega)]; omega
   have w1' : IntKind.wrap .i64 ((s : Int) * 2) = (u : Int) := by rw [wrapi (by omega) (by omega)]; omega
   simp only [w1, push_cast, simprocAttr, fP, pL]
   refine ALoop.mk (fun k t H ds => ∃ (i a b : Nat) (ys : List Pod), k = n - a ∧ a = i * u ∧ b = a + u ∧ a ≤ n ∧ ys.Perm xs ∧ (∀ j, j < i → SrtIn (ltC cf) ys (j * u) ((j + 1) * u)) ∧ (∀ j, 2 * i ≤ j → SrtIn (ltC cf) ys (j * s) ((j + 1) * s)) ∧ t = (.sfull 0 :: .d (.int .i64 (n : Nat)) :: .d (.func g []) :: .x :: .x :: .x :: .d (.int .i64 (s : Nat)) :: .d (.int .i64 (a : Nat)) :: .d (.int .i64 (b : Nat)) :: xs54) ∧ H = [.arr 26 9 (pods ys)] ∧ ds = []) n
    (WK.fgt (t' := (.sfull 0 :: .d (.int .i64 (n : Nat)) :: .d (.func g []) :: .x :: .x :: .x :: .d (.int .i64 (s : Nat)) :: .d (.int .i64 (0 : Nat)) :: .d (.int .i64 (u : Nat)) :: xs54)) (by simp [fgt]) (WK.now ⟨0, 0, u, ys, rfl, by simp, by simp, by omega, hp, by omega, fun j _ => hb j, rfl, rfl, rfl⟩)) ?_
   clear hb hp hyl ys
   rintro k t H ds ⟨i, a, b, ys, rfl, ha, hb, han, hp, h1, h2, rfl, rfl, rfl⟩
   have hyl : ys.length = n := by rw [hp.length_eq, hn]
   obtain ⟨m, hm⟩ : ∃ m, m = a + s := ⟨_, rfl⟩
   have w2 : IntKind.wrap .i64 ((a : Int) + (s : Int)) = (m : Int) := by rw [wrapi (by omega) (by omega)]; omega
   obtain ⟨v, hv⟩ : ∃ v, v = 2 * i := ⟨_, rfl⟩
   have ea : v * s = a := by rw [ha, hu, hv, Nat.mul_comm 2 i, Nat.mul_assoc]
   have f1 : SrtIn (ltC cf) ys a m := by
    have := h2 v (by omega)
    rwa [Nat.succ_mul, ea, ← hm] at this
   have f2 : SrtIn (ltC cf) ys m b := by
    have := h2 (v + 1) (by omega)
    rw [Nat.succ_mul (v + 1), Nat.succ_mul v, ea, ← hm] at this
    rwa [show b = m + s by omega]
   simp only [push_cast, simprocAttr, fP, pL]
   refine Kbr.mk (fun c => ?_) (fun c => ?_)
   ·have c3 : b ≤ n := by simpa using c
    have w3 : IntKind.wrap .i64 ((b : Int) + (u : Int)) = ((b + u : Nat) : Int) := by rw [wrapi (by omega) (by omega)]; rfl
    simp only [w1, w2, push_cast, simprocAttr, fP, pL]
    refine (sym_part hc hO (ys := ys) (a := a) (m := m) (b := b) (by omega) (by omega) (by omega) (by omega) f1 f2).atK [0] (by simp [PV, fP, pL, sl, pods_length, sbl, ren_none, ren_var, ren_arr, ren_map, ren_mapb, ren_iter, ren_loop, ren_defr, bel_none, bel_var, bel_arr, bel_map, bel_mapb, bel_iter, bel_loop, bel_defr, AV.renL, AV.ren, AV.belL, AV.bel, rn]) (by simp) (by simp [PV, fP, pL, sl, pods_length]) (by simp [PV, fP, pL, sl, pods_length, AV.ren, AV.renL, rn]) (by simp [AV.belL, AV.bel]) ?_
    rintro r H' ⟨rfl, zs, p1, s1, rfl⟩
    refine WK.now ?_
    simp only [w1, w3, push_cast, simprocAttr, fP, pL]
    refine ⟨n - b, by omega, WK.fgt (t' := (.sfull 0 :: .d (.int .i64 (n : Nat)) :: .d (.func g []) :: .x :: .x :: .x :: .d (.int .i64 (s : Nat)) :: .d (.int .i64 (b : Nat)) :: .d (.int .i64 (b + u : Nat)) :: xs54)) (by simp [fgt]) (WK.now ⟨i + 1, b, b + u, zs, rfl, by rw [Nat.succ_mul, ← ha, hb], rfl, c3, p1.perm.trans hp, fun j hj => ?_, fun j hj => ?_, rfl, rfl, rfl⟩)⟩
    ·rcases Nat.lt_succ_iff_lt_or_eq.1 hj with h | rfl
     ·exact p1.same (.inl (by rw [ha]; exact Nat.mul_le_mul_right u h)) (h1 j h)
     ·rw [Nat.succ_mul, ← ha, ← hb]; exact s1
    ·refine p1.same (.inr ?_) (h2 j (by omega))
     have : (v + 2) * s ≤ j * s := Nat.mul_le_mul_right s (by omega)
     rw [Nat.add_mul, ea] at this
     omega
   ·have c3 : ¬ b ≤ n := by simpa using c
    simp only [w2, push_cast, simprocAttr, fP, pL]
    refine Kbr.mk (fun c => ?_) (fun c => ?_)
    ·have c4 : m < n := by simpa using c
     simp only [push_cast, simprocAttr, fP, pL]
     refine (sym_part hc hO (ys := ys) (a := a) (m := m) (b := n) (by omega) c4 (by omega) (by omega) f1 (f2.over (by omega) (by omega))).atK [0] (by simp [PV, fP, pL, sl, pods_length, sbl, ren_none, ren_var, ren_arr, ren_map, ren_mapb, ren_iter, ren_loop, ren_defr, bel_none, bel_var, bel_arr, bel_map, bel_mapb, bel_iter, bel_loop, bel_defr, AV.renL, AV.ren, AV.belL, AV.bel, rn]) (by simp) (by simp [PV, fP, pL, sl, pods_length]) (by simp [PV, fP, pL, sl, pods_length, AV.ren, AV.renL, rn]) (by simp [AV.belL, AV.bel]) ?_
     rintro r H' ⟨rfl, zs, p1, s1, rfl⟩
     refine WK.now ?_
     simp only [w1', push_cast, simprocAttr, pods_length, fP, pL]
     exact ⟨n - u, by omega, WK.fgt (t' := (.sfull 0 :: .d (.int .i64 (n : Nat)) :: .d (.func g []) :: .x :: .x :: .x :: .d (.int .i64 (u : Nat)) :: xs56)) (by simp [fgt]) (WK.now ⟨u, zs, rfl, by omega, by omega, p1.perm.trans hp, blk_first h1 ha (by omega) (by rw [hyl]; exact p1) (by rw [hyl]; exact s1), rfl, rfl, rfl⟩)⟩
    ·have c4 : ¬ m < n := by simpa using c
     simp only [w1', push_cast, simprocAttr, pods_length, fP, pL]
     have pp : PartP ys ys a ys.length := by
      obtain ⟨L, M, R, e0, e1, e2, e3⟩ := parts_of (l := ys) (a := a) (b := ys.length) (by omega) (Nat.le_refl _)
      exact ⟨L, M, M, R, e0, e0, List.Perm.refl _, e1, e2⟩
     exact ⟨n - u, by omega, WK.fgt (t' := (.sfull 0 :: .d (.int .i64 (n : Nat)) :: .d (.func g []) :: .x :: .x :: .x :: .d (.int .i64 (u : Nat)) :: xs56)) (by simp [fgt]) (WK.now ⟨u, ys, rfl, by omega, by omega, hp, blk_first h1 ha (by omega) pp (f1.over (by omega) (by omega)), rfl, rfl, rfl⟩)⟩
  ·have c2 : ¬ s < n := by simpa using c
   simp only [push_cast, simprocAttr, fP, pL]
   refine WK.now ?_
   simp only [push_cast, simprocAttr, fP, pL]
   exact ⟨ys, hp, hb.done (by omega), rfl⟩
theorem srt_ok {g : FuncId} {cf : Pod → Pod → Int} (hc : CmpOk g cf) (hO : Ord (ltC cf)) {xs : List Pod} (hl : xs.length ≤ 1000000) :
  ACalls env 91 [.sfull 0, .d (.func g [])] [.arr 26 9 (pods xs)] fun r H' => r = .d (.tup []) ∧ ∃ ys, ys.Perm xs ∧ Srt (ltC cf) ys ∧ H' = [.arr 26 9 (pods ys)] := by
 refine acalls_of envOk Tryz.func91 rfl (by kernel_rfl) (m := 7) rfl ?_
 simp only [push_cast, simprocAttr, fP, pL]
 refine (stb_ok hc hO (xs := xs) rfl hl).atK [0] (by simp [PV, fP, pL, sl, pods_length, sbl, ren_none, ren_var, ren_arr, ren_map, ren_mapb, ren_iter, ren_loop, ren_defr, bel_none, bel_var, bel_arr, bel_map, bel_mapb, bel_iter, bel_loop, bel_defr, AV.renL, AV.ren, AV.belL, AV.bel, rn]) (by simp) (by simp [PV, fP, pL, sl, pods_length]) (by simp [PV, fP, pL, sl, pods_length, AV.ren, AV.renL, rn]) (by simp [AV.belL, AV.bel]) ?_
 rintro r H' ⟨rfl, ys, p, s, rfl⟩
 refine WK.now ?_
 simp only [push_cast, simprocAttr, fP, pL]
 refine WK.now ?_
 simp only [push_cast, simprocAttr, fP, pL]
 exact ⟨ys, p, s, rfl⟩
end Go.Proofs.YtmeicgbddgeeoaaGreatDoor
end
