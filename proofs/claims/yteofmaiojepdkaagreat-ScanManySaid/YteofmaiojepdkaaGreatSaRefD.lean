/- The plain law: Valid of package isa and of the reference compute the same, for every instruction whose fields lie in their types' ranges. No program in sight. -/
import Derived.Test.YteofmaiojepdkaaGreatSaIsaI
set_option linter.all false
namespace Go.Proofs.YteofmaiojepdkaaGreat
open Go.RowKit
theorem ze (l : List Int) (k : Nat) (x : Int) (h : l[k]? = some x) (h0 : 0 ≤ x) (h1 : x < 256) : byt (strOf l) k = x := by
  unfold byt strOf
  have : (l.map fun n => UInt8.ofNat n.toNat).toArray.toList.getD k 0 = UInt8.ofNat x.toNat := by
    simp [List.getD_eq_getElem?_getD, h]
  rw [this]
  have h2 : x.toNat < 256 := by omega
  have h3 : (UInt8.ofNat x.toNat).toNat = x.toNat := by simp [UInt8.toNat_ofNat']; omega
  rw [h3]; omega
theorem z7 (m : Int) (h0 : 0 ≤ m) (h1 : m < 65536) : zQ (m % 256) = m ↔ (m < 128 ∨ 65408 ≤ m) := by
  unfold zQ; split <;> omega
theorem fmt_of_none {op : Int} (h : fOf op = none) : zx op = 0 := by
  by_cases h0 : 0 ≤ op ∧ op ≤ 163
  · obtain ⟨n, hn⟩ : ∃ n : Nat, op = n := ⟨op.toNat, by omega⟩
    subst hn
    have : ∀ n : Nat, n < 164 → fOf n = none → zx n = 0 := by decide +kernel
    exact this n (by omega) h
  · unfold zx; rw [if_neg h0]
theorem vrow_0 (i : Ins) (hi : i.Ok) (hk : fOf i.op = some 0) : zl i = zq i := by
  obtain ⟨o0, o1, -, o2, o3⟩ := yI hk
  have hG : zJ i.op = fF 0 0 0 0 := by unfold zJ; rw [zd hk, zd hk, zd hk, zd hk]; rfl
  have hs : zm i.op = 1 := by unfold zm; rw [hk]; rfl
  have hf : zx i.op = 1 := by
    change 0 ≤ i.op at o2
    change i.op ≤ 5 at o3
    obtain ⟨n, hn⟩ : ∃ n : Nat, i.op = n := ⟨i.op.toNat, by omega⟩
    rw [hn]
    have : ∀ n : Nat, n < 164 → 0 ≤ n → n ≤ 5 → zx n = 1 := by decide +kernel
    exact this n (by omega) (by omega) (by omega)
  obtain ⟨m0, m1⟩ := hi.imm
  obtain ⟨a0, a1⟩ := hi.aux
  have hes := z7 i.imm m0 m1
  unfold zl zq
  rw [hk, hG, hf]
  have hr : zu i.op = 1 := by unfold zu; rw [hf]; rfl
  rw [hr]
  have hfit : zy i (fF 0 0 0 0) 4 = decide (True) := by
    rw [Bool.eq_iff_iff]; simp [zy, zR, fF, zH]
  rw [hfit]
  have hbt : zi i (fF 0 0 0 0) 4 = [i.op] := by simp [zi, zY, fF]
  rw [hbt]
  by_cases hc : True
  · have hd := hc
    have b0 := ze [i.op] 0 _ rfl (by omega) (by omega)
    have hrd : zV [i.op] (fF 0 0 0 0) = ⟨i.op, 0, 0, 0, 0, 0, 1⟩ := by
      simp [zV, yt, zO, fF, yd, hs, b0]
    rw [hrd, decide_eq_true hc, Bool.eq_iff_iff]
    simp [← Ins.ext_iff', zM, zH, yo]
    try omega
  · exact absurd trivial hc
theorem vrow_1 (i : Ins) (hi : i.Ok) (hk : fOf i.op = some 1) : zl i = zq i := by
  obtain ⟨o0, o1, -, o2, o3⟩ := yI hk
  have hG : zJ i.op = fF 2 0 0 0 := by unfold zJ; rw [zd hk, zd hk, zd hk, zd hk]; rfl
  have hs : zm i.op = 2 := by unfold zm; rw [hk]; rfl
  have hf : zx i.op = 2 := by
    change 16 ≤ i.op at o2
    change i.op ≤ 19 at o3
    obtain ⟨n, hn⟩ : ∃ n : Nat, i.op = n := ⟨i.op.toNat, by omega⟩
    rw [hn]
    have : ∀ n : Nat, n < 164 → 16 ≤ n → n ≤ 19 → zx n = 2 := by decide +kernel
    exact this n (by omega) (by omega) (by omega)
  obtain ⟨m0, m1⟩ := hi.imm
  obtain ⟨a0, a1⟩ := hi.aux
  have hes := z7 i.imm m0 m1
  unfold zl zq
  rw [hk, hG, hf]
  have hr : zu i.op = 2 := by unfold zu; rw [hf]; rfl
  rw [hr]
  have hfit : zy i (fF 2 0 0 0) 4 = decide ((0 ≤ i.d ∧ i.d < 8)) := by
    rw [Bool.eq_iff_iff]; simp [zy, zR, fF, zH]
  rw [hfit]
  have hbt : zi i (fF 2 0 0 0) 4 = [i.op, i.d] := by simp [zi, zY, fF]
  rw [hbt]
  by_cases hc : (0 ≤ i.d ∧ i.d < 8)
  · have hd := hc
    have b0 := ze [i.op, i.d] 0 _ rfl (by omega) (by omega)
    have b1 := ze [i.op, i.d] 1 _ rfl (by omega) (by omega)
    have hrd : zV [i.op, i.d] (fF 2 0 0 0) = ⟨i.op, i.d, 0, 0, 0, 0, 2⟩ := by
      simp [zV, yt, zO, fF, yd, hs, b0, b1]
    rw [hrd, decide_eq_true hc, Bool.eq_iff_iff]
    simp [← Ins.ext_iff', zM, zH, yo]
    try omega
  · rw [decide_eq_false hc, Bool.eq_iff_iff]
    simp [zM, zH, yo]
    try omega
theorem vrow_2 (i : Ins) (hi : i.Ok) (hk : fOf i.op = some 2) : zl i = zq i := by
  obtain ⟨o0, o1, -, o2, o3⟩ := yI hk
  have hG : zJ i.op = fF 4 0 0 0 := by unfold zJ; rw [zd hk, zd hk, zd hk, zd hk]; rfl
  have hs : zm i.op = 2 := by unfold zm; rw [hk]; rfl
  have hf : zx i.op = 3 := by
    change 20 ≤ i.op at o2
    change i.op ≤ 21 at o3
    obtain ⟨n, hn⟩ : ∃ n : Nat, i.op = n := ⟨i.op.toNat, by omega⟩
    rw [hn]
    have : ∀ n : Nat, n < 164 → 20 ≤ n → n ≤ 21 → zx n = 3 := by decide +kernel
    exact this n (by omega) (by omega) (by omega)
  obtain ⟨m0, m1⟩ := hi.imm
  obtain ⟨a0, a1⟩ := hi.aux
  have hes := z7 i.imm m0 m1
  unfold zl zq
  rw [hk, hG, hf]
  have hr : zu i.op = 2 := by unfold zu; rw [hf]; rfl
  rw [hr]
  have hfit : zy i (fF 4 0 0 0) 4 = decide ((i.imm < 256)) := by
    rw [Bool.eq_iff_iff]; simp [zy, zR, fF, zH]
  rw [hfit]
  have hbt : zi i (fF 4 0 0 0) 4 = [i.op, i.imm % 256] := by simp [zi, zY, fF]
  rw [hbt]
  by_cases hc : (i.imm < 256)
  · have hd := hc
    have b0 := ze [i.op, i.imm % 256] 0 _ rfl (by omega) (by omega)
    have b1 := ze [i.op, i.imm % 256] 1 _ rfl (by omega) (by omega)
    have hrd : zV [i.op, i.imm % 256] (fF 4 0 0 0) = ⟨i.op, 0, 0, i.imm % 256, 0, 0, 2⟩ := by
      simp [zV, yt, zO, fF, yd, hs, b0, b1]
    rw [hrd, decide_eq_true hc, Bool.eq_iff_iff]
    simp [← Ins.ext_iff', zM, zH, yo]
    try omega
  · rw [decide_eq_false hc, Bool.eq_iff_iff]
    simp [zM, zH, yo]
    try omega
theorem vrow_3 (i : Ins) (hi : i.Ok) (hk : fOf i.op = some 3) : zl i = zq i := by
  obtain ⟨o0, o1, -, o2, o3⟩ := yI hk
  have hG : zJ i.op = fF 1 0 0 0 := by unfold zJ; rw [zd hk, zd hk, zd hk, zd hk]; rfl
  have hs : zm i.op = 2 := by unfold zm; rw [hk]; rfl
  have hf : zx i.op = 4 := by
    change 32 ≤ i.op at o2
    change i.op ≤ 46 at o3
    obtain ⟨n, hn⟩ : ∃ n : Nat, i.op = n := ⟨i.op.toNat, by omega⟩
    rw [hn]
    have : ∀ n : Nat, n < 164 → 32 ≤ n → n ≤ 46 → zx n = 4 := by decide +kernel
    exact this n (by omega) (by omega) (by omega)
  obtain ⟨m0, m1⟩ := hi.imm
  obtain ⟨a0, a1⟩ := hi.aux
  have hes := z7 i.imm m0 m1
  unfold zl zq
  rw [hk, hG, hf]
  have hr : zu i.op = 2 := by unfold zu; rw [hf]; rfl
  rw [hr]
  have hfit : zy i (fF 1 0 0 0) 4 = decide (((0 ≤ i.d ∧ i.d < 8) ∧ (0 ≤ i.s ∧ i.s < 8))) := by
    rw [Bool.eq_iff_iff]; simp [zy, zR, fF, zH]
  rw [hfit]
  have hbt : zi i (fF 1 0 0 0) 4 = [i.op, 16 * i.d + i.s] := by simp [zi, zY, fF]
  rw [hbt]
  by_cases hc : ((0 ≤ i.d ∧ i.d < 8) ∧ (0 ≤ i.s ∧ i.s < 8))
  · have hd := hc
    have b0 := ze [i.op, 16 * i.d + i.s] 0 _ rfl (by omega) (by omega)
    have b1 := ze [i.op, 16 * i.d + i.s] 1 _ rfl (by omega) (by omega)
    have hrd : zV [i.op, 16 * i.d + i.s] (fF 1 0 0 0) = ⟨i.op, (16 * i.d + i.s) / 16, (16 * i.d + i.s) % 16, 0, 0, 0, 2⟩ := by
      simp [zV, yt, zO, fF, yd, hs, b0, b1]
    rw [hrd, decide_eq_true hc, Bool.eq_iff_iff]
    simp [← Ins.ext_iff', zM, zH, yo]
    try omega
  · rw [decide_eq_false hc, Bool.eq_iff_iff]
    simp [zM, zH, yo]
    try omega
theorem vrow_4 (i : Ins) (hi : i.Ok) (hk : fOf i.op = some 4) : zl i = zq i := by
  obtain ⟨o0, o1, -, o2, o3⟩ := yI hk
  have hG : zJ i.op = fF 2 5 0 0 := by unfold zJ; rw [zd hk, zd hk, zd hk, zd hk]; rfl
  have hs : zm i.op = 3 := by unfold zm; rw [hk]; rfl
  have hf : zx i.op = 5 := by
    change 48 ≤ i.op at o2
    change i.op ≤ 62 at o3
    obtain ⟨n, hn⟩ : ∃ n : Nat, i.op = n := ⟨i.op.toNat, by omega⟩
    rw [hn]
    have : ∀ n : Nat, n < 164 → 48 ≤ n → n ≤ 62 → zx n = 5 := by decide +kernel
    exact this n (by omega) (by omega) (by omega)
  obtain ⟨m0, m1⟩ := hi.imm
  obtain ⟨a0, a1⟩ := hi.aux
  have hes := z7 i.imm m0 m1
  unfold zl zq
  rw [hk, hG, hf]
  have hr : zu i.op = 3 := by unfold zu; rw [hf]; rfl
  rw [hr]
  have hfit : zy i (fF 2 5 0 0) 4 = decide ((0 ≤ i.d ∧ i.d < 8) ∧ (zQ (i.imm % 256) = i.imm)) := by
    rw [Bool.eq_iff_iff]; simp [zy, zR, fF, zH]
  rw [hfit]
  have hbt : zi i (fF 2 5 0 0) 4 = [i.op, i.d, i.imm % 256] := by simp [zi, zY, fF]
  rw [hbt]
  by_cases hc : (0 ≤ i.d ∧ i.d < 8) ∧ (zQ (i.imm % 256) = i.imm)
  · have hd := hc
    have b0 := ze [i.op, i.d, i.imm % 256] 0 _ rfl (by omega) (by omega)
    have b1 := ze [i.op, i.d, i.imm % 256] 1 _ rfl (by omega) (by omega)
    have b2 := ze [i.op, i.d, i.imm % 256] 2 _ rfl (by omega) (by omega)
    have hrd : zV [i.op, i.d, i.imm % 256] (fF 2 5 0 0) = ⟨i.op, i.d, 0, zQ (i.imm % 256), 0, 0, 3⟩ := by
      simp [zV, yt, zO, fF, yd, hs, b0, b1, b2]
    rw [hrd, decide_eq_true hc, Bool.eq_iff_iff]
    simp [← Ins.ext_iff', zM, zH, yo]
    try omega
  · rw [decide_eq_false hc, Bool.eq_iff_iff]
    simp [zM, zH, yo]
    try omega
theorem vrow_5 (i : Ins) (hi : i.Ok) (hk : fOf i.op = some 5) : zl i = zq i := by
  obtain ⟨o0, o1, -, o2, o3⟩ := yI hk
  have hG : zJ i.op = fF 2 6 0 0 := by unfold zJ; rw [zd hk, zd hk, zd hk, zd hk]; rfl
  have hs : zm i.op = 4 := by unfold zm; rw [hk]; rfl
  have hf : zx i.op = 6 := by
    change 64 ≤ i.op at o2
    change i.op ≤ 78 at o3
    obtain ⟨n, hn⟩ : ∃ n : Nat, i.op = n := ⟨i.op.toNat, by omega⟩
    rw [hn]
    have : ∀ n : Nat, n < 164 → 64 ≤ n → n ≤ 78 → zx n = 6 := by decide +kernel
    exact this n (by omega) (by omega) (by omega)
  obtain ⟨m0, m1⟩ := hi.imm
  obtain ⟨a0, a1⟩ := hi.aux
  have hes := z7 i.imm m0 m1
  unfold zl zq
  rw [hk, hG, hf]
  have hr : zu i.op = 4 := by unfold zu; rw [hf]; rfl
  rw [hr]
  have hfit : zy i (fF 2 6 0 0) 4 = decide ((0 ≤ i.d ∧ i.d < 8)) := by
    rw [Bool.eq_iff_iff]; simp [zy, zR, fF, zH]
  rw [hfit]
  have hbt : zi i (fF 2 6 0 0) 4 = [i.op, i.d, i.imm % 256, i.imm / 256] := by simp [zi, zY, fF]
  rw [hbt]
  by_cases hc : (0 ≤ i.d ∧ i.d < 8)
  · have hd := hc
    have b0 := ze [i.op, i.d, i.imm % 256, i.imm / 256] 0 _ rfl (by omega) (by omega)
    have b1 := ze [i.op, i.d, i.imm % 256, i.imm / 256] 1 _ rfl (by omega) (by omega)
    have b2 := ze [i.op, i.d, i.imm % 256, i.imm / 256] 2 _ rfl (by omega) (by omega)
    have b3 := ze [i.op, i.d, i.imm % 256, i.imm / 256] 3 _ rfl (by omega) (by omega)
    have hrd : zV [i.op, i.d, i.imm % 256, i.imm / 256] (fF 2 6 0 0) = ⟨i.op, i.d, 0, i.imm % 256 + 256 * (i.imm / 256), 0, 0, 4⟩ := by
      simp [zV, yt, zO, fF, yd, hs, b0, b1, b2, b3]
    rw [hrd, decide_eq_true hc, Bool.eq_iff_iff]
    simp [← Ins.ext_iff', zM, zH, yo]
    try omega
  · rw [decide_eq_false hc, Bool.eq_iff_iff]
    simp [zM, zH, yo]
    try omega
theorem vrow_6 (i : Ins) (hi : i.Ok) (hk : fOf i.op = some 6) : zl i = zq i := by
  obtain ⟨o0, o1, -, o2, o3⟩ := yI hk
  have hG : zJ i.op = fF 1 5 0 0 := by unfold zJ; rw [zd hk, zd hk, zd hk, zd hk]; rfl
  have hs : zm i.op = 3 := by unfold zm; rw [hk]; rfl
  have hf : zx i.op = 7 := by
    change 80 ≤ i.op at o2
    change i.op ≤ 83 at o3
    obtain ⟨n, hn⟩ : ∃ n : Nat, i.op = n := ⟨i.op.toNat, by omega⟩
    rw [hn]
    have : ∀ n : Nat, n < 164 → 80 ≤ n → n ≤ 83 → zx n = 7 := by decide +kernel
    exact this n (by omega) (by omega) (by omega)
  obtain ⟨m0, m1⟩ := hi.imm
  obtain ⟨a0, a1⟩ := hi.aux
  have hes := z7 i.imm m0 m1
  unfold zl zq
  rw [hk, hG, hf]
  have hr : zu i.op = 3 := by unfold zu; rw [hf]; rfl
  rw [hr]
  have hfit : zy i (fF 1 5 0 0) 4 = decide (((0 ≤ i.d ∧ i.d < 8) ∧ (0 ≤ i.s ∧ i.s < 8)) ∧ (zQ (i.imm % 256) = i.imm)) := by
    rw [Bool.eq_iff_iff]; simp [zy, zR, fF, zH]
  rw [hfit]
  have hbt : zi i (fF 1 5 0 0) 4 = [i.op, 16 * i.d + i.s, i.imm % 256] := by simp [zi, zY, fF]
  rw [hbt]
  by_cases hc : ((0 ≤ i.d ∧ i.d < 8) ∧ (0 ≤ i.s ∧ i.s < 8)) ∧ (zQ (i.imm % 256) = i.imm)
  · have hd := hc
    have b0 := ze [i.op, 16 * i.d + i.s, i.imm % 256] 0 _ rfl (by omega) (by omega)
    have b1 := ze [i.op, 16 * i.d + i.s, i.imm % 256] 1 _ rfl (by omega) (by omega)
    have b2 := ze [i.op, 16 * i.d + i.s, i.imm % 256] 2 _ rfl (by omega) (by omega)
    have hrd : zV [i.op, 16 * i.d + i.s, i.imm % 256] (fF 1 5 0 0) = ⟨i.op, (16 * i.d + i.s) / 16, (16 * i.d + i.s) % 16, zQ (i.imm % 256), 0, 0, 3⟩ := by
      simp [zV, yt, zO, fF, yd, hs, b0, b1, b2]
    rw [hrd, decide_eq_true hc, Bool.eq_iff_iff]
    simp [← Ins.ext_iff', zM, zH, yo]
    try omega
  · rw [decide_eq_false hc, Bool.eq_iff_iff]
    simp [zM, zH, yo]
    try omega
theorem vrow_7 (i : Ins) (hi : i.Ok) (hk : fOf i.op = some 7) : zl i = zq i := by
  obtain ⟨o0, o1, -, o2, o3⟩ := yI hk
  have hG : zJ i.op = fF 1 6 0 0 := by unfold zJ; rw [zd hk, zd hk, zd hk, zd hk]; rfl
  have hs : zm i.op = 4 := by unfold zm; rw [hk]; rfl
  have hf : zx i.op = 8 := by
    change 88 ≤ i.op at o2
    change i.op ≤ 91 at o3
    obtain ⟨n, hn⟩ : ∃ n : Nat, i.op = n := ⟨i.op.toNat, by omega⟩
    rw [hn]
    have : ∀ n : Nat, n < 164 → 88 ≤ n → n ≤ 91 → zx n = 8 := by decide +kernel
    exact this n (by omega) (by omega) (by omega)
  obtain ⟨m0, m1⟩ := hi.imm
  obtain ⟨a0, a1⟩ := hi.aux
  have hes := z7 i.imm m0 m1
  unfold zl zq
  rw [hk, hG, hf]
  have hr : zu i.op = 4 := by unfold zu; rw [hf]; rfl
  rw [hr]
  have hfit : zy i (fF 1 6 0 0) 4 = decide (((0 ≤ i.d ∧ i.d < 8) ∧ (0 ≤ i.s ∧ i.s < 8))) := by
    rw [Bool.eq_iff_iff]; simp [zy, zR, fF, zH]
  rw [hfit]
  have hbt : zi i (fF 1 6 0 0) 4 = [i.op, 16 * i.d + i.s, i.imm % 256, i.imm / 256] := by simp [zi, zY, fF]
  rw [hbt]
  by_cases hc : ((0 ≤ i.d ∧ i.d < 8) ∧ (0 ≤ i.s ∧ i.s < 8))
  · have hd := hc
    have b0 := ze [i.op, 16 * i.d + i.s, i.imm % 256, i.imm / 256] 0 _ rfl (by omega) (by omega)
    have b1 := ze [i.op, 16 * i.d + i.s, i.imm % 256, i.imm / 256] 1 _ rfl (by omega) (by omega)
    have b2 := ze [i.op, 16 * i.d + i.s, i.imm % 256, i.imm / 256] 2 _ rfl (by omega) (by omega)
    have b3 := ze [i.op, 16 * i.d + i.s, i.imm % 256, i.imm / 256] 3 _ rfl (by omega) (by omega)
    have hrd : zV [i.op, 16 * i.d + i.s, i.imm % 256, i.imm / 256] (fF 1 6 0 0) = ⟨i.op, (16 * i.d + i.s) / 16, (16 * i.d + i.s) % 16, i.imm % 256 + 256 * (i.imm / 256), 0, 0, 4⟩ := by
      simp [zV, yt, zO, fF, yd, hs, b0, b1, b2, b3]
    rw [hrd, decide_eq_true hc, Bool.eq_iff_iff]
    simp [← Ins.ext_iff', zM, zH, yo]
    try omega
  · rw [decide_eq_false hc, Bool.eq_iff_iff]
    simp [zM, zH, yo]
    try omega
theorem vrow_8 (i : Ins) (hi : i.Ok) (hk : fOf i.op = some 8) : zl i = zq i := by
  obtain ⟨o0, o1, -, o2, o3⟩ := yI hk
  have hG : zJ i.op = fF 2 6 0 0 := by unfold zJ; rw [zd hk, zd hk, zd hk, zd hk]; rfl
  have hs : zm i.op = 4 := by unfold zm; rw [hk]; rfl
  have hf : zx i.op = 9 := by
    change 84 ≤ i.op at o2
    change i.op ≤ 87 at o3
    obtain ⟨n, hn⟩ : ∃ n : Nat, i.op = n := ⟨i.op.toNat, by omega⟩
    rw [hn]
    have : ∀ n : Nat, n < 164 → 84 ≤ n → n ≤ 87 → zx n = 9 := by decide +kernel
    exact this n (by omega) (by omega) (by omega)
  obtain ⟨m0, m1⟩ := hi.imm
  obtain ⟨a0, a1⟩ := hi.aux
  have hes := z7 i.imm m0 m1
  unfold zl zq
  rw [hk, hG, hf]
  have hr : zu i.op = 4 := by unfold zu; rw [hf]; rfl
  rw [hr]
  have hfit : zy i (fF 2 6 0 0) 4 = decide ((0 ≤ i.d ∧ i.d < 8)) := by
    rw [Bool.eq_iff_iff]; simp [zy, zR, fF, zH]
  rw [hfit]
  have hbt : zi i (fF 2 6 0 0) 4 = [i.op, i.d, i.imm % 256, i.imm / 256] := by simp [zi, zY, fF]
  rw [hbt]
  by_cases hc : (0 ≤ i.d ∧ i.d < 8)
  · have hd := hc
    have b0 := ze [i.op, i.d, i.imm % 256, i.imm / 256] 0 _ rfl (by omega) (by omega)
    have b1 := ze [i.op, i.d, i.imm % 256, i.imm / 256] 1 _ rfl (by omega) (by omega)
    have b2 := ze [i.op, i.d, i.imm % 256, i.imm / 256] 2 _ rfl (by omega) (by omega)
    have b3 := ze [i.op, i.d, i.imm % 256, i.imm / 256] 3 _ rfl (by omega) (by omega)
    have hrd : zV [i.op, i.d, i.imm % 256, i.imm / 256] (fF 2 6 0 0) = ⟨i.op, i.d, 0, i.imm % 256 + 256 * (i.imm / 256), 0, 0, 4⟩ := by
      simp [zV, yt, zO, fF, yd, hs, b0, b1, b2, b3]
    rw [hrd, decide_eq_true hc, Bool.eq_iff_iff]
    simp [← Ins.ext_iff', zM, zH, yo]
    try omega
  · rw [decide_eq_false hc, Bool.eq_iff_iff]
    simp [zM, zH, yo]
    try omega
theorem vrow_9 (i : Ins) (hi : i.Ok) (hk : fOf i.op = some 9) : zl i = zq i := by
  obtain ⟨o0, o1, -, o2, o3⟩ := yI hk
  have hG : zJ i.op = fF 5 0 0 0 := by unfold zJ; rw [zd hk, zd hk, zd hk, zd hk]; rfl
  have hs : zm i.op = 2 := by unfold zm; rw [hk]; rfl
  have hf : zx i.op = 10 := by
    change 96 ≤ i.op at o2
    change i.op ≤ 109 at o3
    obtain ⟨n, hn⟩ : ∃ n : Nat, i.op = n := ⟨i.op.toNat, by omega⟩
    rw [hn]
    have : ∀ n : Nat, n < 164 → 96 ≤ n → n ≤ 109 → zx n = 10 := by decide +kernel
    exact this n (by omega) (by omega) (by omega)
  obtain ⟨m0, m1⟩ := hi.imm
  obtain ⟨a0, a1⟩ := hi.aux
  have hes := z7 i.imm m0 m1
  unfold zl zq
  rw [hk, hG, hf]
  have hr : zu i.op = 2 := by unfold zu; rw [hf]; rfl
  rw [hr]
  have hfit : zy i (fF 5 0 0 0) 4 = decide ((zQ (i.imm % 256) = i.imm)) := by
    rw [Bool.eq_iff_iff]; simp [zy, zR, fF, zH]
  rw [hfit]
  have hbt : zi i (fF 5 0 0 0) 4 = [i.op, i.imm % 256] := by simp [zi, zY, fF]
  rw [hbt]
  by_cases hc : (zQ (i.imm % 256) = i.imm)
  · have hd := hc
    have b0 := ze [i.op, i.imm % 256] 0 _ rfl (by omega) (by omega)
    have b1 := ze [i.op, i.imm % 256] 1 _ rfl (by omega) (by omega)
    have hrd : zV [i.op, i.imm % 256] (fF 5 0 0 0) = ⟨i.op, 0, 0, zQ (i.imm % 256), 0, 0, 2⟩ := by
      simp [zV, yt, zO, fF, yd, hs, b0, b1]
    rw [hrd, decide_eq_true hc, Bool.eq_iff_iff]
    simp [← Ins.ext_iff', zM, zH, yo]
    try omega
  · rw [decide_eq_false hc, Bool.eq_iff_iff]
    simp [zM, zH, yo]
    try omega
theorem vrow_10 (i : Ins) (hi : i.Ok) (hk : fOf i.op = some 10) : zl i = zq i := by
  obtain ⟨o0, o1, -, o2, o3⟩ := yI hk
  have hG : zJ i.op = fF 6 0 0 0 := by unfold zJ; rw [zd hk, zd hk, zd hk, zd hk]; rfl
  have hs : zm i.op = 3 := by unfold zm; rw [hk]; rfl
  have hf : zx i.op = 11 := by
    change 112 ≤ i.op at o2
    change i.op ≤ 125 at o3
    obtain ⟨n, hn⟩ : ∃ n : Nat, i.op = n := ⟨i.op.toNat, by omega⟩
    rw [hn]
    have : ∀ n : Nat, n < 164 → 112 ≤ n → n ≤ 125 → zx n = 11 := by decide +kernel
    exact this n (by omega) (by omega) (by omega)
  obtain ⟨m0, m1⟩ := hi.imm
  obtain ⟨a0, a1⟩ := hi.aux
  have hes := z7 i.imm m0 m1
  unfold zl zq
  rw [hk, hG, hf]
  have hr : zu i.op = 3 := by unfold zu; rw [hf]; rfl
  rw [hr]
  have hfit : zy i (fF 6 0 0 0) 4 = decide (True) := by
    rw [Bool.eq_iff_iff]; simp [zy, zR, fF, zH]
  rw [hfit]
  have hbt : zi i (fF 6 0 0 0) 4 = [i.op, i.imm % 256, i.imm / 256] := by simp [zi, zY, fF]
  rw [hbt]
  by_cases hc : True
  · have hd := hc
    have b0 := ze [i.op, i.imm % 256, i.imm / 256] 0 _ rfl (by omega) (by omega)
    have b1 := ze [i.op, i.imm % 256, i.imm / 256] 1 _ rfl (by omega) (by omega)
    have b2 := ze [i.op, i.imm % 256, i.imm / 256] 2 _ rfl (by omega) (by omega)
    have hrd : zV [i.op, i.imm % 256, i.imm / 256] (fF 6 0 0 0) = ⟨i.op, 0, 0, i.imm % 256 + 256 * (i.imm / 256), 0, 0, 3⟩ := by
      simp [zV, yt, zO, fF, yd, hs, b0, b1, b2]
    rw [hrd, decide_eq_true hc, Bool.eq_iff_iff]
    simp [← Ins.ext_iff', zM, zH, yo]
    try omega
  · exact absurd trivial hc
theorem vrow_11 (i : Ins) (hi : i.Ok) (hk : fOf i.op = some 11) : zl i = zq i := by
  obtain ⟨o0, o1, -, o2, o3⟩ := yI hk
  have hG : zJ i.op = fF 5 0 0 0 := by unfold zJ; rw [zd hk, zd hk, zd hk, zd hk]; rfl
  have hs : zm i.op = 2 := by unfold zm; rw [hk]; rfl
  have hf : zx i.op = 10 := by
    change 128 ≤ i.op at o2
    change i.op ≤ 128 at o3
    obtain ⟨n, hn⟩ : ∃ n : Nat, i.op = n := ⟨i.op.toNat, by omega⟩
    rw [hn]
    have : ∀ n : Nat, n < 164 → 128 ≤ n → n ≤ 128 → zx n = 10 := by decide +kernel
    exact this n (by omega) (by omega) (by omega)
  obtain ⟨m0, m1⟩ := hi.imm
  obtain ⟨a0, a1⟩ := hi.aux
  have hes := z7 i.imm m0 m1
  unfold zl zq
  rw [hk, hG, hf]
  have hr : zu i.op = 2 := by unfold zu; rw [hf]; rfl
  rw [hr]
  have hfit : zy i (fF 5 0 0 0) 4 = decide ((zQ (i.imm % 256) = i.imm)) := by
    rw [Bool.eq_iff_iff]; simp [zy, zR, fF, zH]
  rw [hfit]
  have hbt : zi i (fF 5 0 0 0) 4 = [i.op, i.imm % 256] := by simp [zi, zY, fF]
  rw [hbt]
  by_cases hc : (zQ (i.imm % 256) = i.imm)
  · have hd := hc
    have b0 := ze [i.op, i.imm % 256] 0 _ rfl (by omega) (by omega)
    have b1 := ze [i.op, i.imm % 256] 1 _ rfl (by omega) (by omega)
    have hrd : zV [i.op, i.imm % 256] (fF 5 0 0 0) = ⟨i.op, 0, 0, zQ (i.imm % 256), 0, 0, 2⟩ := by
      simp [zV, yt, zO, fF, yd, hs, b0, b1]
    rw [hrd, decide_eq_true hc, Bool.eq_iff_iff]
    simp [← Ins.ext_iff', zM, zH, yo]
    try omega
  · rw [decide_eq_false hc, Bool.eq_iff_iff]
    simp [zM, zH, yo]
    try omega
theorem vrow_12 (i : Ins) (hi : i.Ok) (hk : fOf i.op = some 12) : zl i = zq i := by
  obtain ⟨o0, o1, -, o2, o3⟩ := yI hk
  have hG : zJ i.op = fF 6 0 0 0 := by unfold zJ; rw [zd hk, zd hk, zd hk, zd hk]; rfl
  have hs : zm i.op = 3 := by unfold zm; rw [hk]; rfl
  have hf : zx i.op = 11 := by
    change 129 ≤ i.op at o2
    change i.op ≤ 130 at o3
    obtain ⟨n, hn⟩ : ∃ n : Nat, i.op = n := ⟨i.op.toNat, by omega⟩
    rw [hn]
    have : ∀ n : Nat, n < 164 → 129 ≤ n → n ≤ 130 → zx n = 11 := by decide +kernel
    exact this n (by omega) (by omega) (by omega)
  obtain ⟨m0, m1⟩ := hi.imm
  obtain ⟨a0, a1⟩ := hi.aux
  have hes := z7 i.imm m0 m1
  unfold zl zq
  rw [hk, hG, hf]
  have hr : zu i.op = 3 := by unfold zu; rw [hf]; rfl
  rw [hr]
  have hfit : zy i (fF 6 0 0 0) 4 = decide (True) := by
    rw [Bool.eq_iff_iff]; simp [zy, zR, fF, zH]
  rw [hfit]
  have hbt : zi i (fF 6 0 0 0) 4 = [i.op, i.imm % 256, i.imm / 256] := by simp [zi, zY, fF]
  rw [hbt]
  by_cases hc : True
  · have hd := hc
    have b0 := ze [i.op, i.imm % 256, i.imm / 256] 0 _ rfl (by omega) (by omega)
    have b1 := ze [i.op, i.imm % 256, i.imm / 256] 1 _ rfl (by omega) (by omega)
    have b2 := ze [i.op, i.imm % 256, i.imm / 256] 2 _ rfl (by omega) (by omega)
    have hrd : zV [i.op, i.imm % 256, i.imm / 256] (fF 6 0 0 0) = ⟨i.op, 0, 0, i.imm % 256 + 256 * (i.imm / 256), 0, 0, 3⟩ := by
      simp [zV, yt, zO, fF, yd, hs, b0, b1, b2]
    rw [hrd, decide_eq_true hc, Bool.eq_iff_iff]
    simp [← Ins.ext_iff', zM, zH, yo]
    try omega
  · exact absurd trivial hc
theorem vrow_13 (i : Ins) (hi : i.Ok) (hk : fOf i.op = some 13) : zl i = zq i := by
  obtain ⟨o0, o1, -, o2, o3⟩ := yI hk
  have hG : zJ i.op = fF 8 6 0 0 := by unfold zJ; rw [zd hk, zd hk, zd hk, zd hk]; rfl
  have hs : zm i.op = 4 := by unfold zm; rw [hk]; rfl
  have hf : zx i.op = 12 := by
    change 131 ≤ i.op at o2
    change i.op ≤ 132 at o3
    obtain ⟨n, hn⟩ : ∃ n : Nat, i.op = n := ⟨i.op.toNat, by omega⟩
    rw [hn]
    have : ∀ n : Nat, n < 164 → 131 ≤ n → n ≤ 132 → zx n = 12 := by decide +kernel
    exact this n (by omega) (by omega) (by omega)
  obtain ⟨m0, m1⟩ := hi.imm
  obtain ⟨a0, a1⟩ := hi.aux
  have hes := z7 i.imm m0 m1
  unfold zl zq
  rw [hk, hG, hf]
  have hr : zu i.op = 4 := by unfold zu; rw [hf]; rfl
  rw [hr]
  have hfit : zy i (fF 8 6 0 0) 4 = decide ((0 ≤ i.bank ∧ i.bank < 64)) := by
    rw [Bool.eq_iff_iff]; simp [zy, zR, fF, zH]
  rw [hfit]
  have hbt : zi i (fF 8 6 0 0) 4 = [i.op, i.bank, i.imm % 256, i.imm / 256] := by simp [zi, zY, fF]
  rw [hbt]
  by_cases hc : (0 ≤ i.bank ∧ i.bank < 64)
  · have hd := hc
    have b0 := ze [i.op, i.bank, i.imm % 256, i.imm / 256] 0 _ rfl (by omega) (by omega)
    have b1 := ze [i.op, i.bank, i.imm % 256, i.imm / 256] 1 _ rfl (by omega) (by omega)
    have b2 := ze [i.op, i.bank, i.imm % 256, i.imm / 256] 2 _ rfl (by omega) (by omega)
    have b3 := ze [i.op, i.bank, i.imm % 256, i.imm / 256] 3 _ rfl (by omega) (by omega)
    have hrd : zV [i.op, i.bank, i.imm % 256, i.imm / 256] (fF 8 6 0 0) = ⟨i.op, 0, 0, i.imm % 256 + 256 * (i.imm / 256), 0, i.bank, 4⟩ := by
      simp [zV, yt, zO, fF, yd, hs, b0, b1, b2, b3]
    rw [hrd, decide_eq_true hc, Bool.eq_iff_iff]
    simp [← Ins.ext_iff', zM, zH, yo]
    try omega
  · rw [decide_eq_false hc, Bool.eq_iff_iff]
    simp [zM, zH, yo]
    try omega
theorem vrow_14 (i : Ins) (hi : i.Ok) (hk : fOf i.op = some 14) : zl i = zq i := by
  obtain ⟨o0, o1, -, o2, o3⟩ := yI hk
  have hG : zJ i.op = fF 2 9 6 7 := by unfold zJ; rw [zd hk, zd hk, zd hk, zd hk]; rfl
  have hs : zm i.op = 7 := by unfold zm; rw [hk]; rfl
  have hf : zx i.op = 13 := by
    change 133 ≤ i.op at o2
    change i.op ≤ 133 at o3
    obtain ⟨n, hn⟩ : ∃ n : Nat, i.op = n := ⟨i.op.toNat, by omega⟩
    rw [hn]
    have : ∀ n : Nat, n < 164 → 133 ≤ n → n ≤ 133 → zx n = 13 := by decide +kernel
    exact this n (by omega) (by omega) (by omega)
  obtain ⟨m0, m1⟩ := hi.imm
  obtain ⟨a0, a1⟩ := hi.aux
  have hes := z7 i.imm m0 m1
  unfold zl zq
  rw [hk, hG, hf]
  have hr : zu i.op = 7 := by unfold zu; rw [hf]; rfl
  rw [hr]
  have hfit : zy i (fF 2 9 6 7) 4 = decide ((0 ≤ i.d ∧ i.d < 8) ∧ (1 ≤ i.bank ∧ i.bank < 256)) := by
    rw [Bool.eq_iff_iff]; simp [zy, zR, fF, zH]
  rw [hfit]
  have hbt : zi i (fF 2 9 6 7) 4 = [i.op, i.d, i.bank, i.imm % 256, i.imm / 256, i.aux % 256, i.aux / 256] := by simp [zi, zY, fF]
  rw [hbt]
  by_cases hc : (0 ≤ i.d ∧ i.d < 8) ∧ (1 ≤ i.bank ∧ i.bank < 256)
  · have hd := hc
    have b0 := ze [i.op, i.d, i.bank, i.imm % 256, i.imm / 256, i.aux % 256, i.aux / 256] 0 _ rfl (by omega) (by omega)
    have b1 := ze [i.op, i.d, i.bank, i.imm % 256, i.imm / 256, i.aux % 256, i.aux / 256] 1 _ rfl (by omega) (by omega)
    have b2 := ze [i.op, i.d, i.bank, i.imm % 256, i.imm / 256, i.aux % 256, i.aux / 256] 2 _ rfl (by omega) (by omega)
    have b3 := ze [i.op, i.d, i.bank, i.imm % 256, i.imm / 256, i.aux % 256, i.aux / 256] 3 _ rfl (by omega) (by omega)
    have b4 := ze [i.op, i.d, i.bank, i.imm % 256, i.imm / 256, i.aux % 256, i.aux / 256] 4 _ rfl (by omega) (by omega)
    have b5 := ze [i.op, i.d, i.bank, i.imm % 256, i.imm / 256, i.aux % 256, i.aux / 256] 5 _ rfl (by omega) (by omega)
    have b6 := ze [i.op, i.d, i.bank, i.imm % 256, i.imm / 256, i.aux % 256, i.aux / 256] 6 _ rfl (by omega) (by omega)
    have hrd : zV [i.op, i.d, i.bank, i.imm % 256, i.imm / 256, i.aux % 256, i.aux / 256] (fF 2 9 6 7) = ⟨i.op, i.d, 0, i.imm % 256 + 256 * (i.imm / 256), i.aux % 256 + 256 * (i.aux / 256), i.bank, 7⟩ := by
      simp [zV, yt, zO, fF, yd, hs, b0, b1, b2, b3, b4, b5, b6]
    rw [hrd, decide_eq_true hc, Bool.eq_iff_iff]
    simp [← Ins.ext_iff', zM, zH, yo]
    try omega
  · rw [decide_eq_false hc, Bool.eq_iff_iff]
    simp [zM, zH, yo]
    try omega
theorem vrow_15 (i : Ins) (hi : i.Ok) (hk : fOf i.op = some 15) : zl i = zq i := by
  obtain ⟨o0, o1, -, o2, o3⟩ := yI hk
  have hG : zJ i.op = fF 2 6 0 0 := by unfold zJ; rw [zd hk, zd hk, zd hk, zd hk]; rfl
  have hs : zm i.op = 4 := by unfold zm; rw [hk]; rfl
  have hf : zx i.op = 14 := by
    change 134 ≤ i.op at o2
    change i.op ≤ 134 at o3
    obtain ⟨n, hn⟩ : ∃ n : Nat, i.op = n := ⟨i.op.toNat, by omega⟩
    rw [hn]
    have : ∀ n : Nat, n < 164 → 134 ≤ n → n ≤ 134 → zx n = 14 := by decide +kernel
    exact this n (by omega) (by omega) (by omega)
  obtain ⟨m0, m1⟩ := hi.imm
  obtain ⟨a0, a1⟩ := hi.aux
  have hes := z7 i.imm m0 m1
  unfold zl zq
  rw [hk, hG, hf]
  have hr : zu i.op = 4 := by unfold zu; rw [hf]; rfl
  rw [hr]
  have hfit : zy i (fF 2 6 0 0) 4 = decide ((0 ≤ i.d ∧ i.d < 8)) := by
    rw [Bool.eq_iff_iff]; simp [zy, zR, fF, zH]
  rw [hfit]
  have hbt : zi i (fF 2 6 0 0) 4 = [i.op, i.d, i.imm % 256, i.imm / 256] := by simp [zi, zY, fF]
  rw [hbt]
  by_cases hc : (0 ≤ i.d ∧ i.d < 8)
  · have hd := hc
    have b0 := ze [i.op, i.d, i.imm % 256, i.imm / 256] 0 _ rfl (by omega) (by omega)
    have b1 := ze [i.op, i.d, i.imm % 256, i.imm / 256] 1 _ rfl (by omega) (by omega)
    have b2 := ze [i.op, i.d, i.imm % 256, i.imm / 256] 2 _ rfl (by omega) (by omega)
    have b3 := ze [i.op, i.d, i.imm % 256, i.imm / 256] 3 _ rfl (by omega) (by omega)
    have hrd : zV [i.op, i.d, i.imm % 256, i.imm / 256] (fF 2 6 0 0) = ⟨i.op, i.d, 0, i.imm % 256 + 256 * (i.imm / 256), 0, 0, 4⟩ := by
      simp [zV, yt, zO, fF, yd, hs, b0, b1, b2, b3]
    rw [hrd, decide_eq_true hc, Bool.eq_iff_iff]
    simp [← Ins.ext_iff', zM, zH, yo]
    try omega
  · rw [decide_eq_false hc, Bool.eq_iff_iff]
    simp [zM, zH, yo]
    try omega
theorem vrow_16 (i : Ins) (hi : i.Ok) (hk : fOf i.op = some 16) : zl i = zq i := by
  obtain ⟨o0, o1, -, o2, o3⟩ := yI hk
  have hG : zJ i.op = fF 2 4 0 0 := by unfold zJ; rw [zd hk, zd hk, zd hk, zd hk]; rfl
  have hs : zm i.op = 3 := by unfold zm; rw [hk]; rfl
  have hf : zx i.op = 15 := by
    change 144 ≤ i.op at o2
    change i.op ≤ 145 at o3
    obtain ⟨n, hn⟩ : ∃ n : Nat, i.op = n := ⟨i.op.toNat, by omega⟩
    rw [hn]
    have : ∀ n : Nat, n < 164 → 144 ≤ n → n ≤ 145 → zx n = 15 := by decide +kernel
    exact this n (by omega) (by omega) (by omega)
  obtain ⟨m0, m1⟩ := hi.imm
  obtain ⟨a0, a1⟩ := hi.aux
  have hes := z7 i.imm m0 m1
  unfold zl zq
  rw [hk, hG, hf]
  have hr : zu i.op = 3 := by unfold zu; rw [hf]; rfl
  rw [hr]
  have hfit : zy i (fF 2 4 0 0) 4 = decide ((0 ≤ i.d ∧ i.d < 8) ∧ (i.imm < 256)) := by
    rw [Bool.eq_iff_iff]; simp [zy, zR, fF, zH]
  rw [hfit]
  have hbt : zi i (fF 2 4 0 0) 4 = [i.op, i.d, i.imm % 256] := by simp [zi, zY, fF]
  rw [hbt]
  by_cases hc : (0 ≤ i.d ∧ i.d < 8) ∧ (i.imm < 256)
  · have hd := hc
    have b0 := ze [i.op, i.d, i.imm % 256] 0 _ rfl (by omega) (by omega)
    have b1 := ze [i.op, i.d, i.imm % 256] 1 _ rfl (by omega) (by omega)
    have b2 := ze [i.op, i.d, i.imm % 256] 2 _ rfl (by omega) (by omega)
    have hrd : zV [i.op, i.d, i.imm % 256] (fF 2 4 0 0) = ⟨i.op, i.d, 0, i.imm % 256, 0, 0, 3⟩ := by
      simp [zV, yt, zO, fF, yd, hs, b0, b1, b2]
    rw [hrd, decide_eq_true hc, Bool.eq_iff_iff]
    simp [← Ins.ext_iff', zM, zH, yo]
    try omega
  · rw [decide_eq_false hc, Bool.eq_iff_iff]
    simp [zM, zH, yo]
    try omega
theorem vrow_17 (i : Ins) (hi : i.Ok) (hk : fOf i.op = some 17) : zl i = zq i := by
  obtain ⟨o0, o1, -, o2, o3⟩ := yI hk
  have hG : zJ i.op = fF 1 8 6 0 := by unfold zJ; rw [zd hk, zd hk, zd hk, zd hk]; rfl
  have hs : zm i.op = 5 := by unfold zm; rw [hk]; rfl
  have hf : zx i.op = 16 := by
    change 146 ≤ i.op at o2
    change i.op ≤ 147 at o3
    obtain ⟨n, hn⟩ : ∃ n : Nat, i.op = n := ⟨i.op.toNat, by omega⟩
    rw [hn]
    have : ∀ n : Nat, n < 164 → 146 ≤ n → n ≤ 147 → zx n = 16 := by decide +kernel
    exact this n (by omega) (by omega) (by omega)
  obtain ⟨m0, m1⟩ := hi.imm
  obtain ⟨a0, a1⟩ := hi.aux
  have hes := z7 i.imm m0 m1
  unfold zl zq
  rw [hk, hG, hf]
  have hr : zu i.op = 5 := by unfold zu; rw [hf]; rfl
  rw [hr]
  have hfit : zy i (fF 1 8 6 0) 4 = decide (((0 ≤ i.d ∧ i.d < 8) ∧ (0 ≤ i.s ∧ i.s < 8)) ∧ (0 ≤ i.bank ∧ i.bank < 64)) := by
    rw [Bool.eq_iff_iff]; simp [zy, zR, fF, zH]
  rw [hfit]
  have hbt : zi i (fF 1 8 6 0) 4 = [i.op, 16 * i.d + i.s, i.bank, i.imm % 256, i.imm / 256] := by simp [zi, zY, fF]
  rw [hbt]
  by_cases hc : ((0 ≤ i.d ∧ i.d < 8) ∧ (0 ≤ i.s ∧ i.s < 8)) ∧ (0 ≤ i.bank ∧ i.bank < 64)
  · have hd := hc
    have b0 := ze [i.op, 16 * i.d + i.s, i.bank, i.imm % 256, i.imm / 256] 0 _ rfl (by omega) (by omega)
    have b1 := ze [i.op, 16 * i.d + i.s, i.bank, i.imm % 256, i.imm / 256] 1 _ rfl (by omega) (by omega)
    have b2 := ze [i.op, 16 * i.d + i.s, i.bank, i.imm % 256, i.imm / 256] 2 _ rfl (by omega) (by omega)
    have b3 := ze [i.op, 16 * i.d + i.s, i.bank, i.imm % 256, i.imm / 256] 3 _ rfl (by omega) (by omega)
    have b4 := ze [i.op, 16 * i.d + i.s, i.bank, i.imm % 256, i.imm / 256] 4 _ rfl (by omega) (by omega)
    have hrd : zV [i.op, 16 * i.d + i.s, i.bank, i.imm % 256, i.imm / 256] (fF 1 8 6 0) = ⟨i.op, (16 * i.d + i.s) / 16, (16 * i.d + i.s) % 16, i.imm % 256 + 256 * (i.imm / 256), 0, i.bank, 5⟩ := by
      simp [zV, yt, zO, fF, yd, hs, b0, b1, b2, b3, b4]
    rw [hrd, decide_eq_true hc, Bool.eq_iff_iff]
    simp [← Ins.ext_iff', zM, zH, yo]
    try omega
  · rw [decide_eq_false hc, Bool.eq_iff_iff]
    simp [zM, zH, yo]
    try omega
theorem vrow_18 (i : Ins) (hi : i.Ok) (hk : fOf i.op = some 18) : zl i = zq i := by
  obtain ⟨o0, o1, -, o2, o3⟩ := yI hk
  have hG : zJ i.op = fF 3 6 7 0 := by unfold zJ; rw [zd hk, zd hk, zd hk, zd hk]; rfl
  have hs : zm i.op = 6 := by unfold zm; rw [hk]; rfl
  have hf : zx i.op = 17 := by
    change 150 ≤ i.op at o2
    change i.op ≤ 150 at o3
    obtain ⟨n, hn⟩ : ∃ n : Nat, i.op = n := ⟨i.op.toNat, by omega⟩
    rw [hn]
    have : ∀ n : Nat, n < 164 → 150 ≤ n → n ≤ 150 → zx n = 17 := by decide +kernel
    exact this n (by omega) (by omega) (by omega)
  obtain ⟨m0, m1⟩ := hi.imm
  obtain ⟨a0, a1⟩ := hi.aux
  have hes := z7 i.imm m0 m1
  unfold zl zq
  rw [hk, hG, hf]
  have hr : zu i.op = 6 := by unfold zu; rw [hf]; rfl
  rw [hr]
  have hfit : zy i (fF 3 6 7 0) 4 = decide ((0 ≤ i.s ∧ i.s < 8)) := by
    rw [Bool.eq_iff_iff]; simp [zy, zR, fF, zH]
  rw [hfit]
  have hbt : zi i (fF 3 6 7 0) 4 = [i.op, i.s, i.imm % 256, i.imm / 256, i.aux % 256, i.aux / 256] := by simp [zi, zY, fF]
  rw [hbt]
  by_cases hc : (0 ≤ i.s ∧ i.s < 8)
  · have hd := hc
    have b0 := ze [i.op, i.s, i.imm % 256, i.imm / 256, i.aux % 256, i.aux / 256] 0 _ rfl (by omega) (by omega)
    have b1 := ze [i.op, i.s, i.imm % 256, i.imm / 256, i.aux % 256, i.aux / 256] 1 _ rfl (by omega) (by omega)
    have b2 := ze [i.op, i.s, i.imm % 256, i.imm / 256, i.aux % 256, i.aux / 256] 2 _ rfl (by omega) (by omega)
    have b3 := ze [i.op, i.s, i.imm % 256, i.imm / 256, i.aux % 256, i.aux / 256] 3 _ rfl (by omega) (by omega)
    have b4 := ze [i.op, i.s, i.imm % 256, i.imm / 256, i.aux % 256, i.aux / 256] 4 _ rfl (by omega) (by omega)
    have b5 := ze [i.op, i.s, i.imm % 256, i.imm / 256, i.aux % 256, i.aux / 256] 5 _ rfl (by omega) (by omega)
    have hrd : zV [i.op, i.s, i.imm % 256, i.imm / 256, i.aux % 256, i.aux / 256] (fF 3 6 7 0) = ⟨i.op, 0, i.s, i.imm % 256 + 256 * (i.imm / 256), i.aux % 256 + 256 * (i.aux / 256), 0, 6⟩ := by
      simp [zV, yt, zO, fF, yd, hs, b0, b1, b2, b3, b4, b5]
    rw [hrd, decide_eq_true hc, Bool.eq_iff_iff]
    simp [← Ins.ext_iff', zM, zH, yo]
    try omega
  · rw [decide_eq_false hc, Bool.eq_iff_iff]
    simp [zM, zH, yo]
    try omega
theorem vrow_19 (i : Ins) (hi : i.Ok) (hk : fOf i.op = some 19) : zl i = zq i := by
  obtain ⟨o0, o1, -, o2, o3⟩ := yI hk
  have hG : zJ i.op = fF 2 4 0 0 := by unfold zJ; rw [zd hk, zd hk, zd hk, zd hk]; rfl
  have hs : zm i.op = 3 := by unfold zm; rw [hk]; rfl
  have hf : zx i.op = 15 := by
    change 160 ≤ i.op at o2
    change i.op ≤ 161 at o3
    obtain ⟨n, hn⟩ : ∃ n : Nat, i.op = n := ⟨i.op.toNat, by omega⟩
    rw [hn]
    have : ∀ n : Nat, n < 164 → 160 ≤ n → n ≤ 161 → zx n = 15 := by decide +kernel
    exact this n (by omega) (by omega) (by omega)
  obtain ⟨m0, m1⟩ := hi.imm
  obtain ⟨a0, a1⟩ := hi.aux
  have hes := z7 i.imm m0 m1
  unfold zl zq
  rw [hk, hG, hf]
  have hr : zu i.op = 3 := by unfold zu; rw [hf]; rfl
  rw [hr]
  have hfit : zy i (fF 2 4 0 0) 4 = decide ((0 ≤ i.d ∧ i.d < 8) ∧ (i.imm < 256)) := by
    rw [Bool.eq_iff_iff]; simp [zy, zR, fF, zH]
  rw [hfit]
  have hbt : zi i (fF 2 4 0 0) 4 = [i.op, i.d, i.imm % 256] := by simp [zi, zY, fF]
  rw [hbt]
  by_cases hc : (0 ≤ i.d ∧ i.d < 8) ∧ (i.imm < 256)
  · have hd := hc
    have b0 := ze [i.op, i.d, i.imm % 256] 0 _ rfl (by omega) (by omega)
    have b1 := ze [i.op, i.d, i.imm % 256] 1 _ rfl (by omega) (by omega)
    have b2 := ze [i.op, i.d, i.imm % 256] 2 _ rfl (by omega) (by omega)
    have hrd : zV [i.op, i.d, i.imm % 256] (fF 2 4 0 0) = ⟨i.op, i.d, 0, i.imm % 256, 0, 0, 3⟩ := by
      simp [zV, yt, zO, fF, yd, hs, b0, b1, b2]
    rw [hrd, decide_eq_true hc, Bool.eq_iff_iff]
    simp [← Ins.ext_iff', zM, zH, yo]
    try omega
  · rw [decide_eq_false hc, Bool.eq_iff_iff]
    simp [zM, zH, yo]
    try omega
theorem vrow_20 (i : Ins) (hi : i.Ok) (hk : fOf i.op = some 20) : zl i = zq i := by
  obtain ⟨o0, o1, -, o2, o3⟩ := yI hk
  have hG : zJ i.op = fF 2 5 0 0 := by unfold zJ; rw [zd hk, zd hk, zd hk, zd hk]; rfl
  have hs : zm i.op = 3 := by unfold zm; rw [hk]; rfl
  have hf : zx i.op = 18 := by
    change 162 ≤ i.op at o2
    change i.op ≤ 163 at o3
    obtain ⟨n, hn⟩ : ∃ n : Nat, i.op = n := ⟨i.op.toNat, by omega⟩
    rw [hn]
    have : ∀ n : Nat, n < 164 → 162 ≤ n → n ≤ 163 → zx n = 18 := by decide +kernel
    exact this n (by omega) (by omega) (by omega)
  obtain ⟨m0, m1⟩ := hi.imm
  obtain ⟨a0, a1⟩ := hi.aux
  have hes := z7 i.imm m0 m1
  unfold zl zq
  rw [hk, hG, hf]
  have hr : zu i.op = 3 := by unfold zu; rw [hf]; rfl
  rw [hr]
  have hfit : zy i (fF 2 5 0 0) 4 = decide ((0 ≤ i.d ∧ i.d < 8) ∧ (zQ (i.imm % 256) = i.imm)) := by
    rw [Bool.eq_iff_iff]; simp [zy, zR, fF, zH]
  rw [hfit]
  have hbt : zi i (fF 2 5 0 0) 4 = [i.op, i.d, i.imm % 256] := by simp [zi, zY, fF]
  rw [hbt]
  by_cases hc : (0 ≤ i.d ∧ i.d < 8) ∧ (zQ (i.imm % 256) = i.imm)
  · have hd := hc
    have b0 := ze [i.op, i.d, i.imm % 256] 0 _ rfl (by omega) (by omega)
    have b1 := ze [i.op, i.d, i.imm % 256] 1 _ rfl (by omega) (by omega)
    have b2 := ze [i.op, i.d, i.imm % 256] 2 _ rfl (by omega) (by omega)
    have hrd : zV [i.op, i.d, i.imm % 256] (fF 2 5 0 0) = ⟨i.op, i.d, 0, zQ (i.imm % 256), 0, 0, 3⟩ := by
      simp [zV, yt, zO, fF, yd, hs, b0, b1, b2]
    rw [hrd, decide_eq_true hc, Bool.eq_iff_iff]
    simp [← Ins.ext_iff', zM, zH, yo]
    try omega
  · rw [decide_eq_false hc, Bool.eq_iff_iff]
    simp [zM, zH, yo]
    try omega
theorem valid_eq (i : Ins) (hi : i.Ok) : zl i = zq i := by
  cases hk : fOf i.op with
  | none =>
    have hf := fmt_of_none hk
    unfold zl zq
    rw [hk, hf]; rfl
  | some k =>
    have h21 := (yI hk).2.2.1
    have : k = 0 ∨ k = 1 ∨ k = 2 ∨ k = 3 ∨ k = 4 ∨ k = 5 ∨ k = 6 ∨ k = 7 ∨ k = 8 ∨ k = 9 ∨ k = 10 ∨ k = 11 ∨ k = 12 ∨ k = 13 ∨ k = 14 ∨ k = 15 ∨ k = 16 ∨ k = 17 ∨ k = 18 ∨ k = 19 ∨ k = 20 := by omega
    rcases this with rfl | rfl | rfl | rfl | rfl | rfl | rfl | rfl | rfl | rfl | rfl | rfl | rfl | rfl | rfl | rfl | rfl | rfl | rfl | rfl | rfl
    · exact vrow_0 i hi hk
    · exact vrow_1 i hi hk
    · exact vrow_2 i hi hk
    · exact vrow_3 i hi hk
    · exact vrow_4 i hi hk
    · exact vrow_5 i hi hk
    · exact vrow_6 i hi hk
    · exact vrow_7 i hi hk
    · exact vrow_8 i hi hk
    · exact vrow_9 i hi hk
    · exact vrow_10 i hi hk
    · exact vrow_11 i hi hk
    · exact vrow_12 i hi hk
    · exact vrow_13 i hi hk
    · exact vrow_14 i hi hk
    · exact vrow_15 i hi hk
    · exact vrow_16 i hi hk
    · exact vrow_17 i hi hk
    · exact vrow_18 i hi hk
    · exact vrow_19 i hi hk
    · exact vrow_20 i hi hk
end Go.Proofs.YteofmaiojepdkaaGreat
