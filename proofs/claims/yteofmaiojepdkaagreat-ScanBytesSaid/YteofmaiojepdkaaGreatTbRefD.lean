/- The plain law: Valid of package isa and of the reference compute the same, for every instruction whose fields lie in their types' ranges. No program in sight. -/
import Derived.Test.YteofmaiojepdkaaGreatTbIsaG
set_option linter.all false
namespace Go.Proofs.YteofmaiojepdkaaGreat
open Go.RowKit
theorem zj (l : List Int) (k : Nat) (x : Int) (h : l[k]? = some x) (h0 : 0 ≤ x) (h1 : x < 256) : byt (strOf l) k = x := by
 unfold byt strOf
 have : (l.map fun n => UInt8.ofNat n.toNat).toArray.toList.getD k 0 = UInt8.ofNat x.toNat := by
  simp [List.getD_eq_getElem?_getD, h]
 rw [this]
 have h2 : x.toNat < 256 := by omega
 have h3 : (UInt8.ofNat x.toNat).toNat = x.toNat := by simp [UInt8.toNat_ofNat']; omega
 rw [h3]; omega
theorem yW (m : Int) (h0 : 0 ≤ m) (h1 : m < 65536) : zH (m % 256) = m ↔ (m < 128 ∨ 65408 ≤ m) := by
 unfold zH; split <;> omega
theorem fmt_of_none {op : Int} (h : fOf op = none) : zq op = 0 := by
 by_cases h0 : 0 ≤ op ∧ op ≤ 163
 ·obtain ⟨n, hn⟩ : ∃ n : Nat, op = n := ⟨op.toNat, by omega⟩
  subst hn
  have : ∀ n : Nat, n < 164 → fOf n = none → zq n = 0 := by decide +kernel
  exact this n (by omega) h
 ·unfold zq; rw [if_neg h0]
theorem vrow_0 (i : Ins) (hi : i.Ok) (hk : fOf i.op = some 0) : zy i = zu i := by
 obtain ⟨o0, o1, -, o2, o3⟩ := xR hk
 have hG : z7 i.op = fF 0 0 0 0 := by unfold z7; rw [zf hk, zf hk, zf hk, zf hk]; rfl
 have hs : zx i.op = 1 := by unfold zx; rw [hk]; rfl
 have hf : zq i.op = 1 := by
  change 0 ≤ i.op at o2
  change i.op ≤ 5 at o3
  obtain ⟨n, hn⟩ : ∃ n : Nat, i.op = n := ⟨i.op.toNat, by omega⟩
  rw [hn]
  have : ∀ n : Nat, n < 164 → 0 ≤ n → n ≤ 5 → zq n = 1 := by decide +kernel
  exact this n (by omega) (by omega) (by omega)
 obtain ⟨m0, m1⟩ := hi.imm
 obtain ⟨a0, a1⟩ := hi.aux
 have hes := yW i.imm m0 m1
 unfold zy zu
 rw [hk, hG, hf]
 have hr : zc i.op = 1 := by unfold zc; rw [hf]; rfl
 rw [hr]
 have hfit : zT i (fF 0 0 0 0) 4 = decide (True) := by
  rw [Bool.eq_iff_iff]; simp [zT, yp, fF, zX]
 rw [hfit]
 have hbt : zw i (fF 0 0 0 0) 4 = [i.op] := by simp [zw, yI, fF]
 rw [hbt]
 by_cases hc : True
 ·have hd := hc
  have b0 := zj [i.op] 0 _ rfl (by omega) (by omega)
  have hrd : yv [i.op] (fF 0 0 0 0) = ⟨i.op, 0, 0, 0, 0, 0, 1⟩ := by
   simp [yv, xz, yi, fF, y9, hs, b0]
  rw [hrd, decide_eq_true hc, Bool.eq_iff_iff]
  simp [← Ins.ext_iff', zS, zX, xg]
  try omega
 ·exact absurd trivial hc
theorem vrow_1 (i : Ins) (hi : i.Ok) (hk : fOf i.op = some 1) : zy i = zu i := by
 obtain ⟨o0, o1, -, o2, o3⟩ := xR hk
 have hG : z7 i.op = fF 2 0 0 0 := by unfold z7; rw [zf hk, zf hk, zf hk, zf hk]; rfl
 have hs : zx i.op = 2 := by unfold zx; rw [hk]; rfl
 have hf : zq i.op = 2 := by
  change 16 ≤ i.op at o2
  change i.op ≤ 19 at o3
  obtain ⟨n, hn⟩ : ∃ n : Nat, i.op = n := ⟨i.op.toNat, by omega⟩
  rw [hn]
  have : ∀ n : Nat, n < 164 → 16 ≤ n → n ≤ 19 → zq n = 2 := by decide +kernel
  exact this n (by omega) (by omega) (by omega)
 obtain ⟨m0, m1⟩ := hi.imm
 obtain ⟨a0, a1⟩ := hi.aux
 have hes := yW i.imm m0 m1
 unfold zy zu
 rw [hk, hG, hf]
 have hr : zc i.op = 2 := by unfold zc; rw [hf]; rfl
 rw [hr]
 have hfit : zT i (fF 2 0 0 0) 4 = decide ((0 ≤ i.d ∧ i.d < 8)) := by
  rw [Bool.eq_iff_iff]; simp [zT, yp, fF, zX]
 rw [hfit]
 have hbt : zw i (fF 2 0 0 0) 4 = [i.op, i.d] := by simp [zw, yI, fF]
 rw [hbt]
 by_cases hc : (0 ≤ i.d ∧ i.d < 8)
 ·have hd := hc
  have b0 := zj [i.op, i.d] 0 _ rfl (by omega) (by omega)
  have b1 := zj [i.op, i.d] 1 _ rfl (by omega) (by omega)
  have hrd : yv [i.op, i.d] (fF 2 0 0 0) = ⟨i.op, i.d, 0, 0, 0, 0, 2⟩ := by
   simp [yv, xz, yi, fF, y9, hs, b0, b1]
  rw [hrd, decide_eq_true hc, Bool.eq_iff_iff]
  simp [← Ins.ext_iff', zS, zX, xg]
  try omega
 ·rw [decide_eq_false hc, Bool.eq_iff_iff]
  simp [zS, zX, xg]
  try omega
theorem vrow_2 (i : Ins) (hi : i.Ok) (hk : fOf i.op = some 2) : zy i = zu i := by
 obtain ⟨o0, o1, -, o2, o3⟩ := xR hk
 have hG : z7 i.op = fF 4 0 0 0 := by unfold z7; rw [zf hk, zf hk, zf hk, zf hk]; rfl
 have hs : zx i.op = 2 := by unfold zx; rw [hk]; rfl
 have hf : zq i.op = 3 := by
  change 20 ≤ i.op at o2
  change i.op ≤ 21 at o3
  obtain ⟨n, hn⟩ : ∃ n : Nat, i.op = n := ⟨i.op.toNat, by omega⟩
  rw [hn]
  have : ∀ n : Nat, n < 164 → 20 ≤ n → n ≤ 21 → zq n = 3 := by decide +kernel
  exact this n (by omega) (by omega) (by omega)
 obtain ⟨m0, m1⟩ := hi.imm
 obtain ⟨a0, a1⟩ := hi.aux
 have hes := yW i.imm m0 m1
 unfold zy zu
 rw [hk, hG, hf]
 have hr : zc i.op = 2 := by unfold zc; rw [hf]; rfl
 rw [hr]
 have hfit : zT i (fF 4 0 0 0) 4 = decide ((i.imm < 256)) := by
  rw [Bool.eq_iff_iff]; simp [zT, yp, fF, zX]
 rw [hfit]
 have hbt : zw i (fF 4 0 0 0) 4 = [i.op, i.imm % 256] := by simp [zw, yI, fF]
 rw [hbt]
 by_cases hc : (i.imm < 256)
 ·have hd := hc
  have b0 := zj [i.op, i.imm % 256] 0 _ rfl (by omega) (by omega)
  have b1 := zj [i.op, i.imm % 256] 1 _ rfl (by omega) (by omega)
  have hrd : yv [i.op, i.imm % 256] (fF 4 0 0 0) = ⟨i.op, 0, 0, i.imm % 256, 0, 0, 2⟩ := by
   simp [yv, xz, yi, fF, y9, hs, b0, b1]
  rw [hrd, decide_eq_true hc, Bool.eq_iff_iff]
  simp [← Ins.ext_iff', zS, zX, xg]
  try omega
 ·rw [decide_eq_false hc, Bool.eq_iff_iff]
  simp [zS, zX, xg]
  try omega
theorem vrow_3 (i : Ins) (hi : i.Ok) (hk : fOf i.op = some 3) : zy i = zu i := by
 obtain ⟨o0, o1, -, o2, o3⟩ := xR hk
 have hG : z7 i.op = fF 1 0 0 0 := by unfold z7; rw [zf hk, zf hk, zf hk, zf hk]; rfl
 have hs : zx i.op = 2 := by unfold zx; rw [hk]; rfl
 have hf : zq i.op = 4 := by
  change 32 ≤ i.op at o2
  change i.op ≤ 46 at o3
  obtain ⟨n, hn⟩ : ∃ n : Nat, i.op = n := ⟨i.op.toNat, by omega⟩
  rw [hn]
  have : ∀ n : Nat, n < 164 → 32 ≤ n → n ≤ 46 → zq n = 4 := by decide +kernel
  exact this n (by omega) (by omega) (by omega)
 obtain ⟨m0, m1⟩ := hi.imm
 obtain ⟨a0, a1⟩ := hi.aux
 have hes := yW i.imm m0 m1
 unfold zy zu
 rw [hk, hG, hf]
 have hr : zc i.op = 2 := by unfold zc; rw [hf]; rfl
 rw [hr]
 have hfit : zT i (fF 1 0 0 0) 4 = decide (((0 ≤ i.d ∧ i.d < 8) ∧ (0 ≤ i.s ∧ i.s < 8))) := by
  rw [Bool.eq_iff_iff]; simp [zT, yp, fF, zX]
 rw [hfit]
 have hbt : zw i (fF 1 0 0 0) 4 = [i.op, 16 * i.d + i.s] := by simp [zw, yI, fF]
 rw [hbt]
 by_cases hc : ((0 ≤ i.d ∧ i.d < 8) ∧ (0 ≤ i.s ∧ i.s < 8))
 ·have hd := hc
  have b0 := zj [i.op, 16 * i.d + i.s] 0 _ rfl (by omega) (by omega)
  have b1 := zj [i.op, 16 * i.d + i.s] 1 _ rfl (by omega) (by omega)
  have hrd : yv [i.op, 16 * i.d + i.s] (fF 1 0 0 0) = ⟨i.op, (16 * i.d + i.s) / 16, (16 * i.d + i.s) % 16, 0, 0, 0, 2⟩ := by
   simp [yv, xz, yi, fF, y9, hs, b0, b1]
  rw [hrd, decide_eq_true hc, Bool.eq_iff_iff]
  simp [← Ins.ext_iff', zS, zX, xg]
  try omega
 ·rw [decide_eq_false hc, Bool.eq_iff_iff]
  simp [zS, zX, xg]
  try omega
theorem vrow_4 (i : Ins) (hi : i.Ok) (hk : fOf i.op = some 4) : zy i = zu i := by
 obtain ⟨o0, o1, -, o2, o3⟩ := xR hk
 have hG : z7 i.op = fF 2 5 0 0 := by unfold z7; rw [zf hk, zf hk, zf hk, zf hk]; rfl
 have hs : zx i.op = 3 := by unfold zx; rw [hk]; rfl
 have hf : zq i.op = 5 := by
  change 48 ≤ i.op at o2
  change i.op ≤ 62 at o3
  obtain ⟨n, hn⟩ : ∃ n : Nat, i.op = n := ⟨i.op.toNat, by omega⟩
  rw [hn]
  have : ∀ n : Nat, n < 164 → 48 ≤ n → n ≤ 62 → zq n = 5 := by decide +kernel
  exact this n (by omega) (by omega) (by omega)
 obtain ⟨m0, m1⟩ := hi.imm
 obtain ⟨a0, a1⟩ := hi.aux
 have hes := yW i.imm m0 m1
 unfold zy zu
 rw [hk, hG, hf]
 have hr : zc i.op = 3 := by unfold zc; rw [hf]; rfl
 rw [hr]
 have hfit : zT i (fF 2 5 0 0) 4 = decide ((0 ≤ i.d ∧ i.d < 8) ∧ (zH (i.imm % 256) = i.imm)) := by
  rw [Bool.eq_iff_iff]; simp [zT, yp, fF, zX]
 rw [hfit]
 have hbt : zw i (fF 2 5 0 0) 4 = [i.op, i.d, i.imm % 256] := by simp [zw, yI, fF]
 rw [hbt]
 by_cases hc : (0 ≤ i.d ∧ i.d < 8) ∧ (zH (i.imm % 256) = i.imm)
 ·have hd := hc
  have b0 := zj [i.op, i.d, i.imm % 256] 0 _ rfl (by omega) (by omega)
  have b1 := zj [i.op, i.d, i.imm % 256] 1 _ rfl (by omega) (by omega)
  have b2 := zj [i.op, i.d, i.imm % 256] 2 _ rfl (by omega) (by omega)
  have hrd : yv [i.op, i.d, i.imm % 256] (fF 2 5 0 0) = ⟨i.op, i.d, 0, zH (i.imm % 256), 0, 0, 3⟩ := by
   simp [yv, xz, yi, fF, y9, hs, b0, b1, b2]
  rw [hrd, decide_eq_true hc, Bool.eq_iff_iff]
  simp [← Ins.ext_iff', zS, zX, xg]
  try omega
 ·rw [decide_eq_false hc, Bool.eq_iff_iff]
  simp [zS, zX, xg]
  try omega
theorem vrow_5 (i : Ins) (hi : i.Ok) (hk : fOf i.op = some 5) : zy i = zu i := by
 obtain ⟨o0, o1, -, o2, o3⟩ := xR hk
 have hG : z7 i.op = fF 2 6 0 0 := by unfold z7; rw [zf hk, zf hk, zf hk, zf hk]; rfl
 have hs : zx i.op = 4 := by unfold zx; rw [hk]; rfl
 have hf : zq i.op = 6 := by
  change 64 ≤ i.op at o2
  change i.op ≤ 78 at o3
  obtain ⟨n, hn⟩ : ∃ n : Nat, i.op = n := ⟨i.op.toNat, by omega⟩
  rw [hn]
  have : ∀ n : Nat, n < 164 → 64 ≤ n → n ≤ 78 → zq n = 6 := by decide +kernel
  exact this n (by omega) (by omega) (by omega)
 obtain ⟨m0, m1⟩ := hi.imm
 obtain ⟨a0, a1⟩ := hi.aux
 have hes := yW i.imm m0 m1
 unfold zy zu
 rw [hk, hG, hf]
 have hr : zc i.op = 4 := by unfold zc; rw [hf]; rfl
 rw [hr]
 have hfit : zT i (fF 2 6 0 0) 4 = decide ((0 ≤ i.d ∧ i.d < 8)) := by
  rw [Bool.eq_iff_iff]; simp [zT, yp, fF, zX]
 rw [hfit]
 have hbt : zw i (fF 2 6 0 0) 4 = [i.op, i.d, i.imm % 256, i.imm / 256] := by simp [zw, yI, fF]
 rw [hbt]
 by_cases hc : (0 ≤ i.d ∧ i.d < 8)
 ·have hd := hc
  have b0 := zj [i.op, i.d, i.imm % 256, i.imm / 256] 0 _ rfl (by omega) (by omega)
  have b1 := zj [i.op, i.d, i.imm % 256, i.imm / 256] 1 _ rfl (by omega) (by omega)
  have b2 := zj [i.op, i.d, i.imm % 256, i.imm / 256] 2 _ rfl (by omega) (by omega)
  have b3 := zj [i.op, i.d, i.imm % 256, i.imm / 256] 3 _ rfl (by omega) (by omega)
  have hrd : yv [i.op, i.d, i.imm % 256, i.imm / 256] (fF 2 6 0 0) = ⟨i.op, i.d, 0, i.imm % 256 + 256 * (i.imm / 256), 0, 0, 4⟩ := by
   simp [yv, xz, yi, fF, y9, hs, b0, b1, b2, b3]
  rw [hrd, decide_eq_true hc, Bool.eq_iff_iff]
  simp [← Ins.ext_iff', zS, zX, xg]
  try omega
 ·rw [decide_eq_false hc, Bool.eq_iff_iff]
  simp [zS, zX, xg]
  try omega
theorem vrow_6 (i : Ins) (hi : i.Ok) (hk : fOf i.op = some 6) : zy i = zu i := by
 obtain ⟨o0, o1, -, o2, o3⟩ := xR hk
 have hG : z7 i.op = fF 1 5 0 0 := by unfold z7; rw [zf hk, zf hk, zf hk, zf hk]; rfl
 have hs : zx i.op = 3 := by unfold zx; rw [hk]; rfl
 have hf : zq i.op = 7 := by
  change 80 ≤ i.op at o2
  change i.op ≤ 83 at o3
  obtain ⟨n, hn⟩ : ∃ n : Nat, i.op = n := ⟨i.op.toNat, by omega⟩
  rw [hn]
  have : ∀ n : Nat, n < 164 → 80 ≤ n → n ≤ 83 → zq n = 7 := by decide +kernel
  exact this n (by omega) (by omega) (by omega)
 obtain ⟨m0, m1⟩ := hi.imm
 obtain ⟨a0, a1⟩ := hi.aux
 have hes := yW i.imm m0 m1
 unfold zy zu
 rw [hk, hG, hf]
 have hr : zc i.op = 3 := by unfold zc; rw [hf]; rfl
 rw [hr]
 have hfit : zT i (fF 1 5 0 0) 4 = decide (((0 ≤ i.d ∧ i.d < 8) ∧ (0 ≤ i.s ∧ i.s < 8)) ∧ (zH (i.imm % 256) = i.imm)) := by
  rw [Bool.eq_iff_iff]; simp [zT, yp, fF, zX]
 rw [hfit]
 have hbt : zw i (fF 1 5 0 0) 4 = [i.op, 16 * i.d + i.s, i.imm % 256] := by simp [zw, yI, fF]
 rw [hbt]
 by_cases hc : ((0 ≤ i.d ∧ i.d < 8) ∧ (0 ≤ i.s ∧ i.s < 8)) ∧ (zH (i.imm % 256) = i.imm)
 ·have hd := hc
  have b0 := zj [i.op, 16 * i.d + i.s, i.imm % 256] 0 _ rfl (by omega) (by omega)
  have b1 := zj [i.op, 16 * i.d + i.s, i.imm % 256] 1 _ rfl (by omega) (by omega)
  have b2 := zj [i.op, 16 * i.d + i.s, i.imm % 256] 2 _ rfl (by omega) (by omega)
  have hrd : yv [i.op, 16 * i.d + i.s, i.imm % 256] (fF 1 5 0 0) = ⟨i.op, (16 * i.d + i.s) / 16, (16 * i.d + i.s) % 16, zH (i.imm % 256), 0, 0, 3⟩ := by
   simp [yv, xz, yi, fF, y9, hs, b0, b1, b2]
  rw [hrd, decide_eq_true hc, Bool.eq_iff_iff]
  simp [← Ins.ext_iff', zS, zX, xg]
  try omega
 ·rw [decide_eq_false hc, Bool.eq_iff_iff]
  simp [zS, zX, xg]
  try omega
theorem vrow_7 (i : Ins) (hi : i.Ok) (hk : fOf i.op = some 7) : zy i = zu i := by
 obtain ⟨o0, o1, -, o2, o3⟩ := xR hk
 have hG : z7 i.op = fF 1 6 0 0 := by unfold z7; rw [zf hk, zf hk, zf hk, zf hk]; rfl
 have hs : zx i.op = 4 := by unfold zx; rw [hk]; rfl
 have hf : zq i.op = 8 := by
  change 88 ≤ i.op at o2
  change i.op ≤ 91 at o3
  obtain ⟨n, hn⟩ : ∃ n : Nat, i.op = n := ⟨i.op.toNat, by omega⟩
  rw [hn]
  have : ∀ n : Nat, n < 164 → 88 ≤ n → n ≤ 91 → zq n = 8 := by decide +kernel
  exact this n (by omega) (by omega) (by omega)
 obtain ⟨m0, m1⟩ := hi.imm
 obtain ⟨a0, a1⟩ := hi.aux
 have hes := yW i.imm m0 m1
 unfold zy zu
 rw [hk, hG, hf]
 have hr : zc i.op = 4 := by unfold zc; rw [hf]; rfl
 rw [hr]
 have hfit : zT i (fF 1 6 0 0) 4 = decide (((0 ≤ i.d ∧ i.d < 8) ∧ (0 ≤ i.s ∧ i.s < 8))) := by
  rw [Bool.eq_iff_iff]; simp [zT, yp, fF, zX]
 rw [hfit]
 have hbt : zw i (fF 1 6 0 0) 4 = [i.op, 16 * i.d + i.s, i.imm % 256, i.imm / 256] := by simp [zw, yI, fF]
 rw [hbt]
 by_cases hc : ((0 ≤ i.d ∧ i.d < 8) ∧ (0 ≤ i.s ∧ i.s < 8))
 ·have hd := hc
  have b0 := zj [i.op, 16 * i.d + i.s, i.imm % 256, i.imm / 256] 0 _ rfl (by omega) (by omega)
  have b1 := zj [i.op, 16 * i.d + i.s, i.imm % 256, i.imm / 256] 1 _ rfl (by omega) (by omega)
  have b2 := zj [i.op, 16 * i.d + i.s, i.imm % 256, i.imm / 256] 2 _ rfl (by omega) (by omega)
  have b3 := zj [i.op, 16 * i.d + i.s, i.imm % 256, i.imm / 256] 3 _ rfl (by omega) (by omega)
  have hrd : yv [i.op, 16 * i.d + i.s, i.imm % 256, i.imm / 256] (fF 1 6 0 0) = ⟨i.op, (16 * i.d + i.s) / 16, (16 * i.d + i.s) % 16, i.imm % 256 + 256 * (i.imm / 256), 0, 0, 4⟩ := by
   simp [yv, xz, yi, fF, y9, hs, b0, b1, b2, b3]
  rw [hrd, decide_eq_true hc, Bool.eq_iff_iff]
  simp [← Ins.ext_iff', zS, zX, xg]
  try omega
 ·rw [decide_eq_false hc, Bool.eq_iff_iff]
  simp [zS, zX, xg]
  try omega
theorem vrow_8 (i : Ins) (hi : i.Ok) (hk : fOf i.op = some 8) : zy i = zu i := by
 obtain ⟨o0, o1, -, o2, o3⟩ := xR hk
 have hG : z7 i.op = fF 2 6 0 0 := by unfold z7; rw [zf hk, zf hk, zf hk, zf hk]; rfl
 have hs : zx i.op = 4 := by unfold zx; rw [hk]; rfl
 have hf : zq i.op = 9 := by
  change 84 ≤ i.op at o2
  change i.op ≤ 87 at o3
  obtain ⟨n, hn⟩ : ∃ n : Nat, i.op = n := ⟨i.op.toNat, by omega⟩
  rw [hn]
  have : ∀ n : Nat, n < 164 → 84 ≤ n → n ≤ 87 → zq n = 9 := by decide +kernel
  exact this n (by omega) (by omega) (by omega)
 obtain ⟨m0, m1⟩ := hi.imm
 obtain ⟨a0, a1⟩ := hi.aux
 have hes := yW i.imm m0 m1
 unfold zy zu
 rw [hk, hG, hf]
 have hr : zc i.op = 4 := by unfold zc; rw [hf]; rfl
 rw [hr]
 have hfit : zT i (fF 2 6 0 0) 4 = decide ((0 ≤ i.d ∧ i.d < 8)) := by
  rw [Bool.eq_iff_iff]; simp [zT, yp, fF, zX]
 rw [hfit]
 have hbt : zw i (fF 2 6 0 0) 4 = [i.op, i.d, i.imm % 256, i.imm / 256] := by simp [zw, yI, fF]
 rw [hbt]
 by_cases hc : (0 ≤ i.d ∧ i.d < 8)
 ·have hd := hc
  have b0 := zj [i.op, i.d, i.imm % 256, i.imm / 256] 0 _ rfl (by omega) (by omega)
  have b1 := zj [i.op, i.d, i.imm % 256, i.imm / 256] 1 _ rfl (by omega) (by omega)
  have b2 := zj [i.op, i.d, i.imm % 256, i.imm / 256] 2 _ rfl (by omega) (by omega)
  have b3 := zj [i.op, i.d, i.imm % 256, i.imm / 256] 3 _ rfl (by omega) (by omega)
  have hrd : yv [i.op, i.d, i.imm % 256, i.imm / 256] (fF 2 6 0 0) = ⟨i.op, i.d, 0, i.imm % 256 + 256 * (i.imm / 256), 0, 0, 4⟩ := by
   simp [yv, xz, yi, fF, y9, hs, b0, b1, b2, b3]
  rw [hrd, decide_eq_true hc, Bool.eq_iff_iff]
  simp [← Ins.ext_iff', zS, zX, xg]
  try omega
 ·rw [decide_eq_false hc, Bool.eq_iff_iff]
  simp [zS, zX, xg]
  try omega
theorem vrow_9 (i : Ins) (hi : i.Ok) (hk : fOf i.op = some 9) : zy i = zu i := by
 obtain ⟨o0, o1, -, o2, o3⟩ := xR hk
 have hG : z7 i.op = fF 5 0 0 0 := by unfold z7; rw [zf hk, zf hk, zf hk, zf hk]; rfl
 have hs : zx i.op = 2 := by unfold zx; rw [hk]; rfl
 have hf : zq i.op = 10 := by
  change 96 ≤ i.op at o2
  change i.op ≤ 109 at o3
  obtain ⟨n, hn⟩ : ∃ n : Nat, i.op = n := ⟨i.op.toNat, by omega⟩
  rw [hn]
  have : ∀ n : Nat, n < 164 → 96 ≤ n → n ≤ 109 → zq n = 10 := by decide +kernel
  exact this n (by omega) (by omega) (by omega)
 obtain ⟨m0, m1⟩ := hi.imm
 obtain ⟨a0, a1⟩ := hi.aux
 have hes := yW i.imm m0 m1
 unfold zy zu
 rw [hk, hG, hf]
 have hr : zc i.op = 2 := by unfold zc; rw [hf]; rfl
 rw [hr]
 have hfit : zT i (fF 5 0 0 0) 4 = decide ((zH (i.imm % 256) = i.imm)) := by
  rw [Bool.eq_iff_iff]; simp [zT, yp, fF, zX]
 rw [hfit]
 have hbt : zw i (fF 5 0 0 0) 4 = [i.op, i.imm % 256] := by simp [zw, yI, fF]
 rw [hbt]
 by_cases hc : (zH (i.imm % 256) = i.imm)
 ·have hd := hc
  have b0 := zj [i.op, i.imm % 256] 0 _ rfl (by omega) (by omega)
  have b1 := zj [i.op, i.imm % 256] 1 _ rfl (by omega) (by omega)
  have hrd : yv [i.op, i.imm % 256] (fF 5 0 0 0) = ⟨i.op, 0, 0, zH (i.imm % 256), 0, 0, 2⟩ := by
   simp [yv, xz, yi, fF, y9, hs, b0, b1]
  rw [hrd, decide_eq_true hc, Bool.eq_iff_iff]
  simp [← Ins.ext_iff', zS, zX, xg]
  try omega
 ·rw [decide_eq_false hc, Bool.eq_iff_iff]
  simp [zS, zX, xg]
  try omega
theorem vrow_10 (i : Ins) (hi : i.Ok) (hk : fOf i.op = some 10) : zy i = zu i := by
 obtain ⟨o0, o1, -, o2, o3⟩ := xR hk
 have hG : z7 i.op = fF 6 0 0 0 := by unfold z7; rw [zf hk, zf hk, zf hk, zf hk]; rfl
 have hs : zx i.op = 3 := by unfold zx; rw [hk]; rfl
 have hf : zq i.op = 11 := by
  change 112 ≤ i.op at o2
  change i.op ≤ 125 at o3
  obtain ⟨n, hn⟩ : ∃ n : Nat, i.op = n := ⟨i.op.toNat, by omega⟩
  rw [hn]
  have : ∀ n : Nat, n < 164 → 112 ≤ n → n ≤ 125 → zq n = 11 := by decide +kernel
  exact this n (by omega) (by omega) (by omega)
 obtain ⟨m0, m1⟩ := hi.imm
 obtain ⟨a0, a1⟩ := hi.aux
 have hes := yW i.imm m0 m1
 unfold zy zu
 rw [hk, hG, hf]
 have hr : zc i.op = 3 := by unfold zc; rw [hf]; rfl
 rw [hr]
 have hfit : zT i (fF 6 0 0 0) 4 = decide (True) := by
  rw [Bool.eq_iff_iff]; simp [zT, yp, fF, zX]
 rw [hfit]
 have hbt : zw i (fF 6 0 0 0) 4 = [i.op, i.imm % 256, i.imm / 256] := by simp [zw, yI, fF]
 rw [hbt]
 by_cases hc : True
 ·have hd := hc
  have b0 := zj [i.op, i.imm % 256, i.imm / 256] 0 _ rfl (by omega) (by omega)
  have b1 := zj [i.op, i.imm % 256, i.imm / 256] 1 _ rfl (by omega) (by omega)
  have b2 := zj [i.op, i.imm % 256, i.imm / 256] 2 _ rfl (by omega) (by omega)
  have hrd : yv [i.op, i.imm % 256, i.imm / 256] (fF 6 0 0 0) = ⟨i.op, 0, 0, i.imm % 256 + 256 * (i.imm / 256), 0, 0, 3⟩ := by
   simp [yv, xz, yi, fF, y9, hs, b0, b1, b2]
  rw [hrd, decide_eq_true hc, Bool.eq_iff_iff]
  simp [← Ins.ext_iff', zS, zX, xg]
  try omega
 ·exact absurd trivial hc
theorem vrow_11 (i : Ins) (hi : i.Ok) (hk : fOf i.op = some 11) : zy i = zu i := by
 obtain ⟨o0, o1, -, o2, o3⟩ := xR hk
 have hG : z7 i.op = fF 5 0 0 0 := by unfold z7; rw [zf hk, zf hk, zf hk, zf hk]; rfl
 have hs : zx i.op = 2 := by unfold zx; rw [hk]; rfl
 have hf : zq i.op = 10 := by
  change 128 ≤ i.op at o2
  change i.op ≤ 128 at o3
  obtain ⟨n, hn⟩ : ∃ n : Nat, i.op = n := ⟨i.op.toNat, by omega⟩
  rw [hn]
  have : ∀ n : Nat, n < 164 → 128 ≤ n → n ≤ 128 → zq n = 10 := by decide +kernel
  exact this n (by omega) (by omega) (by omega)
 obtain ⟨m0, m1⟩ := hi.imm
 obtain ⟨a0, a1⟩ := hi.aux
 have hes := yW i.imm m0 m1
 unfold zy zu
 rw [hk, hG, hf]
 have hr : zc i.op = 2 := by unfold zc; rw [hf]; rfl
 rw [hr]
 have hfit : zT i (fF 5 0 0 0) 4 = decide ((zH (i.imm % 256) = i.imm)) := by
  rw [Bool.eq_iff_iff]; simp [zT, yp, fF, zX]
 rw [hfit]
 have hbt : zw i (fF 5 0 0 0) 4 = [i.op, i.imm % 256] := by simp [zw, yI, fF]
 rw [hbt]
 by_cases hc : (zH (i.imm % 256) = i.imm)
 ·have hd := hc
  have b0 := zj [i.op, i.imm % 256] 0 _ rfl (by omega) (by omega)
  have b1 := zj [i.op, i.imm % 256] 1 _ rfl (by omega) (by omega)
  have hrd : yv [i.op, i.imm % 256] (fF 5 0 0 0) = ⟨i.op, 0, 0, zH (i.imm % 256), 0, 0, 2⟩ := by
   simp [yv, xz, yi, fF, y9, hs, b0, b1]
  rw [hrd, decide_eq_true hc, Bool.eq_iff_iff]
  simp [← Ins.ext_iff', zS, zX, xg]
  try omega
 ·rw [decide_eq_false hc, Bool.eq_iff_iff]
  simp [zS, zX, xg]
  try omega
theorem vrow_12 (i : Ins) (hi : i.Ok) (hk : fOf i.op = some 12) : zy i = zu i := by
 obtain ⟨o0, o1, -, o2, o3⟩ := xR hk
 have hG : z7 i.op = fF 6 0 0 0 := by unfold z7; rw [zf hk, zf hk, zf hk, zf hk]; rfl
 have hs : zx i.op = 3 := by unfold zx; rw [hk]; rfl
 have hf : zq i.op = 11 := by
  change 129 ≤ i.op at o2
  change i.op ≤ 130 at o3
  obtain ⟨n, hn⟩ : ∃ n : Nat, i.op = n := ⟨i.op.toNat, by omega⟩
  rw [hn]
  have : ∀ n : Nat, n < 164 → 129 ≤ n → n ≤ 130 → zq n = 11 := by decide +kernel
  exact this n (by omega) (by omega) (by omega)
 obtain ⟨m0, m1⟩ := hi.imm
 obtain ⟨a0, a1⟩ := hi.aux
 have hes := yW i.imm m0 m1
 unfold zy zu
 rw [hk, hG, hf]
 have hr : zc i.op = 3 := by unfold zc; rw [hf]; rfl
 rw [hr]
 have hfit : zT i (fF 6 0 0 0) 4 = decide (True) := by
  rw [Bool.eq_iff_iff]; simp [zT, yp, fF, zX]
 rw [hfit]
 have hbt : zw i (fF 6 0 0 0) 4 = [i.op, i.imm % 256, i.imm / 256] := by simp [zw, yI, fF]
 rw [hbt]
 by_cases hc : True
 ·have hd := hc
  have b0 := zj [i.op, i.imm % 256, i.imm / 256] 0 _ rfl (by omega) (by omega)
  have b1 := zj [i.op, i.imm % 256, i.imm / 256] 1 _ rfl (by omega) (by omega)
  have b2 := zj [i.op, i.imm % 256, i.imm / 256] 2 _ rfl (by omega) (by omega)
  have hrd : yv [i.op, i.imm % 256, i.imm / 256] (fF 6 0 0 0) = ⟨i.op, 0, 0, i.imm % 256 + 256 * (i.imm / 256), 0, 0, 3⟩ := by
   simp [yv, xz, yi, fF, y9, hs, b0, b1, b2]
  rw [hrd, decide_eq_true hc, Bool.eq_iff_iff]
  simp [← Ins.ext_iff', zS, zX, xg]
  try omega
 ·exact absurd trivial hc
theorem vrow_13 (i : Ins) (hi : i.Ok) (hk : fOf i.op = some 13) : zy i = zu i := by
 obtain ⟨o0, o1, -, o2, o3⟩ := xR hk
 have hG : z7 i.op = fF 8 6 0 0 := by unfold z7; rw [zf hk, zf hk, zf hk, zf hk]; rfl
 have hs : zx i.op = 4 := by unfold zx; rw [hk]; rfl
 have hf : zq i.op = 12 := by
  change 131 ≤ i.op at o2
  change i.op ≤ 132 at o3
  obtain ⟨n, hn⟩ : ∃ n : Nat, i.op = n := ⟨i.op.toNat, by omega⟩
  rw [hn]
  have : ∀ n : Nat, n < 164 → 131 ≤ n → n ≤ 132 → zq n = 12 := by decide +kernel
  exact this n (by omega) (by omega) (by omega)
 obtain ⟨m0, m1⟩ := hi.imm
 obtain ⟨a0, a1⟩ := hi.aux
 have hes := yW i.imm m0 m1
 unfold zy zu
 rw [hk, hG, hf]
 have hr : zc i.op = 4 := by unfold zc; rw [hf]; rfl
 rw [hr]
 have hfit : zT i (fF 8 6 0 0) 4 = decide ((0 ≤ i.bank ∧ i.bank < 64)) := by
  rw [Bool.eq_iff_iff]; simp [zT, yp, fF, zX]
 rw [hfit]
 have hbt : zw i (fF 8 6 0 0) 4 = [i.op, i.bank, i.imm % 256, i.imm / 256] := by simp [zw, yI, fF]
 rw [hbt]
 by_cases hc : (0 ≤ i.bank ∧ i.bank < 64)
 ·have hd := hc
  have b0 := zj [i.op, i.bank, i.imm % 256, i.imm / 256] 0 _ rfl (by omega) (by omega)
  have b1 := zj [i.op, i.bank, i.imm % 256, i.imm / 256] 1 _ rfl (by omega) (by omega)
  have b2 := zj [i.op, i.bank, i.imm % 256, i.imm / 256] 2 _ rfl (by omega) (by omega)
  have b3 := zj [i.op, i.bank, i.imm % 256, i.imm / 256] 3 _ rfl (by omega) (by omega)
  have hrd : yv [i.op, i.bank, i.imm % 256, i.imm / 256] (fF 8 6 0 0) = ⟨i.op, 0, 0, i.imm % 256 + 256 * (i.imm / 256), 0, i.bank, 4⟩ := by
   simp [yv, xz, yi, fF, y9, hs, b0, b1, b2, b3]
  rw [hrd, decide_eq_true hc, Bool.eq_iff_iff]
  simp [← Ins.ext_iff', zS, zX, xg]
  try omega
 ·rw [decide_eq_false hc, Bool.eq_iff_iff]
  simp [zS, zX, xg]
  try omega
theorem vrow_14 (i : Ins) (hi : i.Ok) (hk : fOf i.op = some 14) : zy i = zu i := by
 obtain ⟨o0, o1, -, o2, o3⟩ := xR hk
 have hG : z7 i.op = fF 2 9 6 7 := by unfold z7; rw [zf hk, zf hk, zf hk, zf hk]; rfl
 have hs : zx i.op = 7 := by unfold zx; rw [hk]; rfl
 have hf : zq i.op = 13 := by
  change 133 ≤ i.op at o2
  change i.op ≤ 133 at o3
  obtain ⟨n, hn⟩ : ∃ n : Nat, i.op = n := ⟨i.op.toNat, by omega⟩
  rw [hn]
  have : ∀ n : Nat, n < 164 → 133 ≤ n → n ≤ 133 → zq n = 13 := by decide +kernel
  exact this n (by omega) (by omega) (by omega)
 obtain ⟨m0, m1⟩ := hi.imm
 obtain ⟨a0, a1⟩ := hi.aux
 have hes := yW i.imm m0 m1
 unfold zy zu
 rw [hk, hG, hf]
 have hr : zc i.op = 7 := by unfold zc; rw [hf]; rfl
 rw [hr]
 have hfit : zT i (fF 2 9 6 7) 4 = decide ((0 ≤ i.d ∧ i.d < 8) ∧ (1 ≤ i.bank ∧ i.bank < 256)) := by
  rw [Bool.eq_iff_iff]; simp [zT, yp, fF, zX]
 rw [hfit]
 have hbt : zw i (fF 2 9 6 7) 4 = [i.op, i.d, i.bank, i.imm % 256, i.imm / 256, i.aux % 256, i.aux / 256] := by simp [zw, yI, fF]
 rw [hbt]
 by_cases hc : (0 ≤ i.d ∧ i.d < 8) ∧ (1 ≤ i.bank ∧ i.bank < 256)
 ·have hd := hc
  have b0 := zj [i.op, i.d, i.bank, i.imm % 256, i.imm / 256, i.aux % 256, i.aux / 256] 0 _ rfl (by omega) (by omega)
  have b1 := zj [i.op, i.d, i.bank, i.imm % 256, i.imm / 256, i.aux % 256, i.aux / 256] 1 _ rfl (by omega) (by omega)
  have b2 := zj [i.op, i.d, i.bank, i.imm % 256, i.imm / 256, i.aux % 256, i.aux / 256] 2 _ rfl (by omega) (by omega)
  have b3 := zj [i.op, i.d, i.bank, i.imm % 256, i.imm / 256, i.aux % 256, i.aux / 256] 3 _ rfl (by omega) (by omega)
  have b4 := zj [i.op, i.d, i.bank, i.imm % 256, i.imm / 256, i.aux % 256, i.aux / 256] 4 _ rfl (by omega) (by omega)
  have b5 := zj [i.op, i.d, i.bank, i.imm % 256, i.imm / 256, i.aux % 256, i.aux / 256] 5 _ rfl (by omega) (by omega)
  have b6 := zj [i.op, i.d, i.bank, i.imm % 256, i.imm / 256, i.aux % 256, i.aux / 256] 6 _ rfl (by omega) (by omega)
  have hrd : yv [i.op, i.d, i.bank, i.imm % 256, i.imm / 256, i.aux % 256, i.aux / 256] (fF 2 9 6 7) = ⟨i.op, i.d, 0, i.imm % 256 + 256 * (i.imm / 256), i.aux % 256 + 256 * (i.aux / 256), i.bank, 7⟩ := by
   simp [yv, xz, yi, fF, y9, hs, b0, b1, b2, b3, b4, b5, b6]
  rw [hrd, decide_eq_true hc, Bool.eq_iff_iff]
  simp [← Ins.ext_iff', zS, zX, xg]
  try omega
 ·rw [decide_eq_false hc, Bool.eq_iff_iff]
  simp [zS, zX, xg]
  try omega
theorem vrow_15 (i : Ins) (hi : i.Ok) (hk : fOf i.op = some 15) : zy i = zu i := by
 obtain ⟨o0, o1, -, o2, o3⟩ := xR hk
 have hG : z7 i.op = fF 2 6 0 0 := by unfold z7; rw [zf hk, zf hk, zf hk, zf hk]; rfl
 have hs : zx i.op = 4 := by unfold zx; rw [hk]; rfl
 have hf : zq i.op = 14 := by
  change 134 ≤ i.op at o2
  change i.op ≤ 134 at o3
  obtain ⟨n, hn⟩ : ∃ n : Nat, i.op = n := ⟨i.op.toNat, by omega⟩
  rw [hn]
  have : ∀ n : Nat, n < 164 → 134 ≤ n → n ≤ 134 → zq n = 14 := by decide +kernel
  exact this n (by omega) (by omega) (by omega)
 obtain ⟨m0, m1⟩ := hi.imm
 obtain ⟨a0, a1⟩ := hi.aux
 have hes := yW i.imm m0 m1
 unfold zy zu
 rw [hk, hG, hf]
 have hr : zc i.op = 4 := by unfold zc; rw [hf]; rfl
 rw [hr]
 have hfit : zT i (fF 2 6 0 0) 4 = decide ((0 ≤ i.d ∧ i.d < 8)) := by
  rw [Bool.eq_iff_iff]; simp [zT, yp, fF, zX]
 rw [hfit]
 have hbt : zw i (fF 2 6 0 0) 4 = [i.op, i.d, i.imm % 256, i.imm / 256] := by simp [zw, yI, fF]
 rw [hbt]
 by_cases hc : (0 ≤ i.d ∧ i.d < 8)
 ·have hd := hc
  have b0 := zj [i.op, i.d, i.imm % 256, i.imm / 256] 0 _ rfl (by omega) (by omega)
  have b1 := zj [i.op, i.d, i.imm % 256, i.imm / 256] 1 _ rfl (by omega) (by omega)
  have b2 := zj [i.op, i.d, i.imm % 256, i.imm / 256] 2 _ rfl (by omega) (by omega)
  have b3 := zj [i.op, i.d, i.imm % 256, i.imm / 256] 3 _ rfl (by omega) (by omega)
  have hrd : yv [i.op, i.d, i.imm % 256, i.imm / 256] (fF 2 6 0 0) = ⟨i.op, i.d, 0, i.imm % 256 + 256 * (i.imm / 256), 0, 0, 4⟩ := by
   simp [yv, xz, yi, fF, y9, hs, b0, b1, b2, b3]
  rw [hrd, decide_eq_true hc, Bool.eq_iff_iff]
  simp [← Ins.ext_iff', zS, zX, xg]
  try omega
 ·rw [decide_eq_false hc, Bool.eq_iff_iff]
  simp [zS, zX, xg]
  try omega
theorem vrow_16 (i : Ins) (hi : i.Ok) (hk : fOf i.op = some 16) : zy i = zu i := by
 obtain ⟨o0, o1, -, o2, o3⟩ := xR hk
 have hG : z7 i.op = fF 2 4 0 0 := by unfold z7; rw [zf hk, zf hk, zf hk, zf hk]; rfl
 have hs : zx i.op = 3 := by unfold zx; rw [hk]; rfl
 have hf : zq i.op = 15 := by
  change 144 ≤ i.op at o2
  change i.op ≤ 145 at o3
  obtain ⟨n, hn⟩ : ∃ n : Nat, i.op = n := ⟨i.op.toNat, by omega⟩
  rw [hn]
  have : ∀ n : Nat, n < 164 → 144 ≤ n → n ≤ 145 → zq n = 15 := by decide +kernel
  exact this n (by omega) (by omega) (by omega)
 obtain ⟨m0, m1⟩ := hi.imm
 obtain ⟨a0, a1⟩ := hi.aux
 have hes := yW i.imm m0 m1
 unfold zy zu
 rw [hk, hG, hf]
 have hr : zc i.op = 3 := by unfold zc; rw [hf]; rfl
 rw [hr]
 have hfit : zT i (fF 2 4 0 0) 4 = decide ((0 ≤ i.d ∧ i.d < 8) ∧ (i.imm < 256)) := by
  rw [Bool.eq_iff_iff]; simp [zT, yp, fF, zX]
 rw [hfit]
 have hbt : zw i (fF 2 4 0 0) 4 = [i.op, i.d, i.imm % 256] := by simp [zw, yI, fF]
 rw [hbt]
 by_cases hc : (0 ≤ i.d ∧ i.d < 8) ∧ (i.imm < 256)
 ·have hd := hc
  have b0 := zj [i.op, i.d, i.imm % 256] 0 _ rfl (by omega) (by omega)
  have b1 := zj [i.op, i.d, i.imm % 256] 1 _ rfl (by omega) (by omega)
  have b2 := zj [i.op, i.d, i.imm % 256] 2 _ rfl (by omega) (by omega)
  have hrd : yv [i.op, i.d, i.imm % 256] (fF 2 4 0 0) = ⟨i.op, i.d, 0, i.imm % 256, 0, 0, 3⟩ := by
   simp [yv, xz, yi, fF, y9, hs, b0, b1, b2]
  rw [hrd, decide_eq_true hc, Bool.eq_iff_iff]
  simp [← Ins.ext_iff', zS, zX, xg]
  try omega
 ·rw [decide_eq_false hc, Bool.eq_iff_iff]
  simp [zS, zX, xg]
  try omega
theorem vrow_17 (i : Ins) (hi : i.Ok) (hk : fOf i.op = some 17) : zy i = zu i := by
 obtain ⟨o0, o1, -, o2, o3⟩ := xR hk
 have hG : z7 i.op = fF 1 8 6 0 := by unfold z7; rw [zf hk, zf hk, zf hk, zf hk]; rfl
 have hs : zx i.op = 5 := by unfold zx; rw [hk]; rfl
 have hf : zq i.op = 16 := by
  change 146 ≤ i.op at o2
  change i.op ≤ 147 at o3
  obtain ⟨n, hn⟩ : ∃ n : Nat, i.op = n := ⟨i.op.toNat, by omega⟩
  rw [hn]
  have : ∀ n : Nat, n < 164 → 146 ≤ n → n ≤ 147 → zq n = 16 := by decide +kernel
  exact this n (by omega) (by omega) (by omega)
 obtain ⟨m0, m1⟩ := hi.imm
 obtain ⟨a0, a1⟩ := hi.aux
 have hes := yW i.imm m0 m1
 unfold zy zu
 rw [hk, hG, hf]
 have hr : zc i.op = 5 := by unfold zc; rw [hf]; rfl
 rw [hr]
 have hfit : zT i (fF 1 8 6 0) 4 = decide (((0 ≤ i.d ∧ i.d < 8) ∧ (0 ≤ i.s ∧ i.s < 8)) ∧ (0 ≤ i.bank ∧ i.bank < 64)) := by
  rw [Bool.eq_iff_iff]; simp [zT, yp, fF, zX]
 rw [hfit]
 have hbt : zw i (fF 1 8 6 0) 4 = [i.op, 16 * i.d + i.s, i.bank, i.imm % 256, i.imm / 256] := by simp [zw, yI, fF]
 rw [hbt]
 by_cases hc : ((0 ≤ i.d ∧ i.d < 8) ∧ (0 ≤ i.s ∧ i.s < 8)) ∧ (0 ≤ i.bank ∧ i.bank < 64)
 ·have hd := hc
  have b0 := zj [i.op, 16 * i.d + i.s, i.bank, i.imm % 256, i.imm / 256] 0 _ rfl (by omega) (by omega)
  have b1 := zj [i.op, 16 * i.d + i.s, i.bank, i.imm % 256, i.imm / 256] 1 _ rfl (by omega) (by omega)
  have b2 := zj [i.op, 16 * i.d + i.s, i.bank, i.imm % 256, i.imm / 256] 2 _ rfl (by omega) (by omega)
  have b3 := zj [i.op, 16 * i.d + i.s, i.bank, i.imm % 256, i.imm / 256] 3 _ rfl (by omega) (by omega)
  have b4 := zj [i.op, 16 * i.d + i.s, i.bank, i.imm % 256, i.imm / 256] 4 _ rfl (by omega) (by omega)
  have hrd : yv [i.op, 16 * i.d + i.s, i.bank, i.imm % 256, i.imm / 256] (fF 1 8 6 0) = ⟨i.op, (16 * i.d + i.s) / 16, (16 * i.d + i.s) % 16, i.imm % 256 + 256 * (i.imm / 256), 0, i.bank, 5⟩ := by
   simp [yv, xz, yi, fF, y9, hs, b0, b1, b2, b3, b4]
  rw [hrd, decide_eq_true hc, Bool.eq_iff_iff]
  simp [← Ins.ext_iff', zS, zX, xg]
  try omega
 ·rw [decide_eq_false hc, Bool.eq_iff_iff]
  simp [zS, zX, xg]
  try omega
theorem vrow_18 (i : Ins) (hi : i.Ok) (hk : fOf i.op = some 18) : zy i = zu i := by
 obtain ⟨o0, o1, -, o2, o3⟩ := xR hk
 have hG : z7 i.op = fF 3 6 7 0 := by unfold z7; rw [zf hk, zf hk, zf hk, zf hk]; rfl
 have hs : zx i.op = 6 := by unfold zx; rw [hk]; rfl
 have hf : zq i.op = 17 := by
  change 150 ≤ i.op at o2
  change i.op ≤ 150 at o3
  obtain ⟨n, hn⟩ : ∃ n : Nat, i.op = n := ⟨i.op.toNat, by omega⟩
  rw [hn]
  have : ∀ n : Nat, n < 164 → 150 ≤ n → n ≤ 150 → zq n = 17 := by decide +kernel
  exact this n (by omega) (by omega) (by omega)
 obtain ⟨m0, m1⟩ := hi.imm
 obtain ⟨a0, a1⟩ := hi.aux
 have hes := yW i.imm m0 m1
 unfold zy zu
 rw [hk, hG, hf]
 have hr : zc i.op = 6 := by unfold zc; rw [hf]; rfl
 rw [hr]
 have hfit : zT i (fF 3 6 7 0) 4 = decide ((0 ≤ i.s ∧ i.s < 8)) := by
  rw [Bool.eq_iff_iff]; simp [zT, yp, fF, zX]
 rw [hfit]
 have hbt : zw i (fF 3 6 7 0) 4 = [i.op, i.s, i.imm % 256, i.imm / 256, i.aux % 256, i.aux / 256] := by simp [zw, yI, fF]
 rw [hbt]
 by_cases hc : (0 ≤ i.s ∧ i.s < 8)
 ·have hd := hc
  have b0 := zj [i.op, i.s, i.imm % 256, i.imm / 256, i.aux % 256, i.aux / 256] 0 _ rfl (by omega) (by omega)
  have b1 := zj [i.op, i.s, i.imm % 256, i.imm / 256, i.aux % 256, i.aux / 256] 1 _ rfl (by omega) (by omega)
  have b2 := zj [i.op, i.s, i.imm % 256, i.imm / 256, i.aux % 256, i.aux / 256] 2 _ rfl (by omega) (by omega)
  have b3 := zj [i.op, i.s, i.imm % 256, i.imm / 256, i.aux % 256, i.aux / 256] 3 _ rfl (by omega) (by omega)
  have b4 := zj [i.op, i.s, i.imm % 256, i.imm / 256, i.aux % 256, i.aux / 256] 4 _ rfl (by omega) (by omega)
  have b5 := zj [i.op, i.s, i.imm % 256, i.imm / 256, i.aux % 256, i.aux / 256] 5 _ rfl (by omega) (by omega)
  have hrd : yv [i.op, i.s, i.imm % 256, i.imm / 256, i.aux % 256, i.aux / 256] (fF 3 6 7 0) = ⟨i.op, 0, i.s, i.imm % 256 + 256 * (i.imm / 256), i.aux % 256 + 256 * (i.aux / 256), 0, 6⟩ := by
   simp [yv, xz, yi, fF, y9, hs, b0, b1, b2, b3, b4, b5]
  rw [hrd, decide_eq_true hc, Bool.eq_iff_iff]
  simp [← Ins.ext_iff', zS, zX, xg]
  try omega
 ·rw [decide_eq_false hc, Bool.eq_iff_iff]
  simp [zS, zX, xg]
  try omega
theorem vrow_19 (i : Ins) (hi : i.Ok) (hk : fOf i.op = some 19) : zy i = zu i := by
 obtain ⟨o0, o1, -, o2, o3⟩ := xR hk
 have hG : z7 i.op = fF 2 4 0 0 := by unfold z7; rw [zf hk, zf hk, zf hk, zf hk]; rfl
 have hs : zx i.op = 3 := by unfold zx; rw [hk]; rfl
 have hf : zq i.op = 15 := by
  change 160 ≤ i.op at o2
  change i.op ≤ 161 at o3
  obtain ⟨n, hn⟩ : ∃ n : Nat, i.op = n := ⟨i.op.toNat, by omega⟩
  rw [hn]
  have : ∀ n : Nat, n < 164 → 160 ≤ n → n ≤ 161 → zq n = 15 := by decide +kernel
  exact this n (by omega) (by omega) (by omega)
 obtain ⟨m0, m1⟩ := hi.imm
 obtain ⟨a0, a1⟩ := hi.aux
 have hes := yW i.imm m0 m1
 unfold zy zu
 rw [hk, hG, hf]
 have hr : zc i.op = 3 := by unfold zc; rw [hf]; rfl
 rw [hr]
 have hfit : zT i (fF 2 4 0 0) 4 = decide ((0 ≤ i.d ∧ i.d < 8) ∧ (i.imm < 256)) := by
  rw [Bool.eq_iff_iff]; simp [zT, yp, fF, zX]
 rw [hfit]
 have hbt : zw i (fF 2 4 0 0) 4 = [i.op, i.d, i.imm % 256] := by simp [zw, yI, fF]
 rw [hbt]
 by_cases hc : (0 ≤ i.d ∧ i.d < 8) ∧ (i.imm < 256)
 ·have hd := hc
  have b0 := zj [i.op, i.d, i.imm % 256] 0 _ rfl (by omega) (by omega)
  have b1 := zj [i.op, i.d, i.imm % 256] 1 _ rfl (by omega) (by omega)
  have b2 := zj [i.op, i.d, i.imm % 256] 2 _ rfl (by omega) (by omega)
  have hrd : yv [i.op, i.d, i.imm % 256] (fF 2 4 0 0) = ⟨i.op, i.d, 0, i.imm % 256, 0, 0, 3⟩ := by
   simp [yv, xz, yi, fF, y9, hs, b0, b1, b2]
  rw [hrd, decide_eq_true hc, Bool.eq_iff_iff]
  simp [← Ins.ext_iff', zS, zX, xg]
  try omega
 ·rw [decide_eq_false hc, Bool.eq_iff_iff]
  simp [zS, zX, xg]
  try omega
theorem vrow_20 (i : Ins) (hi : i.Ok) (hk : fOf i.op = some 20) : zy i = zu i := by
 obtain ⟨o0, o1, -, o2, o3⟩ := xR hk
 have hG : z7 i.op = fF 2 5 0 0 := by unfold z7; rw [zf hk, zf hk, zf hk, zf hk]; rfl
 have hs : zx i.op = 3 := by unfold zx; rw [hk]; rfl
 have hf : zq i.op = 18 := by
  change 162 ≤ i.op at o2
  change i.op ≤ 163 at o3
  obtain ⟨n, hn⟩ : ∃ n : Nat, i.op = n := ⟨i.op.toNat, by omega⟩
  rw [hn]
  have : ∀ n : Nat, n < 164 → 162 ≤ n → n ≤ 163 → zq n = 18 := by decide +kernel
  exact this n (by omega) (by omega) (by omega)
 obtain ⟨m0, m1⟩ := hi.imm
 obtain ⟨a0, a1⟩ := hi.aux
 have hes := yW i.imm m0 m1
 unfold zy zu
 rw [hk, hG, hf]
 have hr : zc i.op = 3 := by unfold zc; rw [hf]; rfl
 rw [hr]
 have hfit : zT i (fF 2 5 0 0) 4 = decide ((0 ≤ i.d ∧ i.d < 8) ∧ (zH (i.imm % 256) = i.imm)) := by
  rw [Bool.eq_iff_iff]; simp [zT, yp, fF, zX]
 rw [hfit]
 have hbt : zw i (fF 2 5 0 0) 4 = [i.op, i.d, i.imm % 256] := by simp [zw, yI, fF]
 rw [hbt]
 by_cases hc : (0 ≤ i.d ∧ i.d < 8) ∧ (zH (i.imm % 256) = i.imm)
 ·have hd := hc
  have b0 := zj [i.op, i.d, i.imm % 256] 0 _ rfl (by omega) (by omega)
  have b1 := zj [i.op, i.d, i.imm % 256] 1 _ rfl (by omega) (by omega)
  have b2 := zj [i.op, i.d, i.imm % 256] 2 _ rfl (by omega) (by omega)
  have hrd : yv [i.op, i.d, i.imm % 256] (fF 2 5 0 0) = ⟨i.op, i.d, 0, zH (i.imm % 256), 0, 0, 3⟩ := by
   simp [yv, xz, yi, fF, y9, hs, b0, b1, b2]
  rw [hrd, decide_eq_true hc, Bool.eq_iff_iff]
  simp [← Ins.ext_iff', zS, zX, xg]
  try omega
 ·rw [decide_eq_false hc, Bool.eq_iff_iff]
  simp [zS, zX, xg]
  try omega
theorem y3 (i : Ins) (hi : i.Ok) : zy i = zu i := by
 cases hk : fOf i.op with
 | none =>
  have hf := fmt_of_none hk
  unfold zy zu
  rw [hk, hf]; rfl
 | some k =>
  have h21 := (xR hk).2.2.1
  have : k = 0 ∨ k = 1 ∨ k = 2 ∨ k = 3 ∨ k = 4 ∨ k = 5 ∨ k = 6 ∨ k = 7 ∨ k = 8 ∨ k = 9 ∨ k = 10 ∨ k = 11 ∨ k = 12 ∨ k = 13 ∨ k = 14 ∨ k = 15 ∨ k = 16 ∨ k = 17 ∨ k = 18 ∨ k = 19 ∨ k = 20 := by omega
  rcases this with rfl | rfl | rfl | rfl | rfl | rfl | rfl | rfl | rfl | rfl | rfl | rfl | rfl | rfl | rfl | rfl | rfl | rfl | rfl | rfl | rfl
  ·exact vrow_0 i hi hk
  ·exact vrow_1 i hi hk
  ·exact vrow_2 i hi hk
  ·exact vrow_3 i hi hk
  ·exact vrow_4 i hi hk
  ·exact vrow_5 i hi hk
  ·exact vrow_6 i hi hk
  ·exact vrow_7 i hi hk
  ·exact vrow_8 i hi hk
  ·exact vrow_9 i hi hk
  ·exact vrow_10 i hi hk
  ·exact vrow_11 i hi hk
  ·exact vrow_12 i hi hk
  ·exact vrow_13 i hi hk
  ·exact vrow_14 i hi hk
  ·exact vrow_15 i hi hk
  ·exact vrow_16 i hi hk
  ·exact vrow_17 i hi hk
  ·exact vrow_18 i hi hk
  ·exact vrow_19 i hi hk
  ·exact vrow_20 i hi hk
end Go.Proofs.YteofmaiojepdkaaGreat
