/- The generator behind vellumref04.Fill: what is to be tried, part 3: plain arithmetic, printed by wip/gen_lcg.py. No condition. -/
import Derived.KernelRfl
set_option linter.all false
namespace Go.Proofs.YteofmaiojepdkaaGreat
def lcg (s : Nat) : Nat := (s * 1664525 + 1013904223) % 4294967296
def yT (s : Nat) : Bool := Nat.ble 2181038080 s && Nat.blt s 2231369728
def seqL (s k : Nat) : Nat := Nat.rec (fun s => s) (fun _ ih s => ih (lcg s)) k s
theorem seq_zero (s : Nat) : seqL s 0 = s := by delta seqL; rfl
theorem seq_succ (s k : Nat) : seqL s (k + 1) = seqL (lcg s) k := by delta seqL; rfl
def cntL (s : Nat) : Nat → Nat
 | 0 => 0
 | k + 1 => (if yT s then 1 else 0) + cntL (lcg s) k
def frc (f : Nat → Bool) (x : Nat) : Bool := Nat.rec (f 0) (fun n _ => f (Nat.succ n)) x
theorem frc_eq (f : Nat → Bool) (x : Nat) : frc f x = f x := by cases x <;> rfl
def fp (n : Nat) : Nat → Nat → Nat → Bool := Nat.rec (fun _ cnt pos => Nat.ble (4 * cnt) pos)
 (fun _ ih s cnt pos => bif Nat.ble (4 * cnt) pos then true else frc (fun t => frc (fun p => bif yT t then frc (fun c => ih t c p) (cnt + 1) else ih t cnt p) (pos + 1)) (lcg s)) n
def en3 (b : Nat) (chk : Nat → Bool) (n : Nat) : Nat → Bool := Nat.rec (fun _ => true) (fun _ ih x => bif chk x then frc ih ((x + b) % 4294967296) else false) n
def en2 (b2 b3 N3 : Nat) (chk : Nat → Bool) (n : Nat) : Nat → Bool := Nat.rec (fun _ => true) (fun _ ih x => bif en3 b3 chk N3 x then frc ih ((x + b2) % 4294967296) else false) n
def en1 (b1 b2 b3 N2 N3 : Nat) (chk : Nat → Bool) (n : Nat) : Nat → Bool := Nat.rec (fun _ => true) (fun _ ih x => bif en2 b2 b3 N3 chk N2 x then frc ih ((x + b1) % 4294967296) else false) n
theorem bif_both {a b : Bool} (h : (bif a then b else false) = true) : a = true ∧ b = true := by cases a <;> simp_all
theorem en3_at {b : Nat} {chk : Nat → Bool} : ∀ {n x : Nat}, en3 b chk n x = true → x < 4294967296 → ∀ k, k < n → chk ((x + k * b) % 4294967296) = true
 | n + 1, x, h, hx, k, hk => by
  obtain ⟨h1, h2⟩ := bif_both h
  rw [frc_eq] at h2
  cases k with
  | zero => rw [Nat.zero_mul, Nat.add_zero, Nat.mod_eq_of_lt hx]; exact h1
  | succ k =>
   have := en3_at (n := n) h2 (Nat.mod_lt _ (by decide)) k (by omega)
   rwa [Nat.mod_add_mod, show x + b + k * b = x + (k + 1) * b by rw [Nat.add_mul]; omega] at this
theorem en2_at {b2 b3 N3 : Nat} {chk : Nat → Bool} : ∀ {n x : Nat}, en2 b2 b3 N3 chk n x = true → x < 4294967296 → ∀ k l, k < n → l < N3 → chk ((x + k * b2 + l * b3) % 4294967296) = true
 | n + 1, x, h, hx, k, l, hk, hl => by
  obtain ⟨h1, h2⟩ := bif_both h
  rw [frc_eq] at h2
  cases k with
  | zero => rw [Nat.zero_mul, Nat.add_zero]; exact en3_at h1 hx l hl
  | succ k =>
   have := en2_at (n := n) h2 (Nat.mod_lt _ (by decide)) k l (by omega) hl
   rwa [Nat.add_assoc, Nat.mod_add_mod, show x + b2 + (k * b2 + l * b3) = x + (k + 1) * b2 + l * b3 by rw [Nat.add_mul]; omega] at this
theorem x8 {b1 b2 b3 N2 N3 : Nat} {chk : Nat → Bool} : ∀ {n x : Nat}, en1 b1 b2 b3 N2 N3 chk n x = true → ∀ k l j, k < n → l < N2 → j < N3 → x < 4294967296 → chk ((x + k * b1 + l * b2 + j * b3) % 4294967296) = true
 | n + 1, x, h, k, l, j, hk, hl, hj, hx => by
  obtain ⟨h1, h2⟩ := bif_both h
  rw [frc_eq] at h2
  cases k with
  | zero => rw [Nat.zero_mul, Nat.add_zero]; exact en2_at h1 hx l j hl hj
  | succ k =>
   have := x8 (n := n) h2 k l j (by omega) hl hj (Nat.mod_lt _ (by decide))
   rwa [Nat.add_assoc, Nat.add_assoc, Nat.mod_add_mod, show x + b1 + (k * b1 + (l * b2 + j * b3)) = x + (k + 1) * b1 + l * b2 + j * b3 by rw [Nat.add_mul]; omega] at this
def chkG (Ai bi Aj bj fu pos x : Nat) : Bool := bif Nat.blt x 50331648 then frc (fun y => bif Nat.blt y 50331648 then frc (fun z => bif Nat.blt z 50331648 then fp fu (2181038080 + z) 3 pos else true) ((x * Aj + bj) % 4294967296) else true) ((x * Ai + bi) % 4294967296) else true
theorem yU {Ai bi Aj bj fu pos x : Nat} (h : chkG Ai bi Aj bj fu pos x = true) (hx : x < 50331648) (hi : (x * Ai + bi) % 4294967296 < 50331648) (hj : (x * Aj + bj) % 4294967296 < 50331648) : fp fu (2181038080 + (x * Aj + bj) % 4294967296) 3 pos = true := by
 unfold chkG at h
 rw [show Nat.blt x 50331648 = true by rw [Nat.blt_eq]; exact hx, cond_true, frc_eq, show Nat.blt ((x * Ai + bi) % 4294967296) 50331648 = true by rw [Nat.blt_eq]; exact hi, cond_true, frc_eq, show Nat.blt ((x * Aj + bj) % 4294967296) 50331648 = true by rw [Nat.blt_eq]; exact hj, cond_true] at h
 exact h
theorem fp_succ (n s c p : Nat) : fp (n + 1) s c p = (Nat.ble (4 * c) p || fp n (lcg s) (c + bif yT (lcg s) then 1 else 0) (p + 1)) := by
 show (bif Nat.ble (4 * c) p then true else frc (fun t => frc (fun p => bif yT t then frc (fun c => fp n t c p) (c + 1) else fp n t c p) (p + 1)) (lcg s)) = _
 rw [frc_eq, frc_eq, frc_eq]
 cases Nat.ble (4 * c) p <;> cases yT (lcg s) <;> rfl
end Go.Proofs.YteofmaiojepdkaaGreat
namespace Go.Proofs.YteofmaiojepdkaaGreat
theorem all1_2 : en1 4294113219 4292239923 4294188045 26 27 (chkG 1664525 1416557407 389569705 2538613042 26 3) 33 83327251 = true := by kernel_rfl
set_option maxHeartbeats 4000000 in
theorem pat1_2 (x : Nat) (hx : x < 50331648) (hi : (x * 1664525 + 1416557407) % 4294967296 < 50331648) (hj : (x * 389569705 + 2538613042) % 4294967296 < 50331648) : fp 26 (2181038080 + (x * 389569705 + 2538613042) % 4294967296) 3 3 = true := by
 obtain ⟨y, hy⟩ : ∃ y : Int, y = ((x * 1664525 + 1416557407) % 4294967296 : Nat) := ⟨_, rfl⟩
 obtain ⟨z, hz⟩ : ∃ z : Int, z = ((x * 389569705 + 2538613042) % 4294967296 : Nat) := ⟨_, rfl⟩
 obtain ⟨u, hu⟩ : ∃ u : Int, u = ((x * 1664525 + 1416557407) / 4294967296 : Nat) := ⟨_, rfl⟩
 obtain ⟨v, hv⟩ : ∃ v : Int, v = ((x * 389569705 + 2538613042) / 4294967296 : Nat) := ⟨_, rfl⟩
 have ey : y = (x : Int) * 1664525 + 1416557407 - 4294967296 * u := by omega
 have ez : z = (x : Int) * 389569705 + 2538613042 - 4294967296 * v := by omega
 have y0 : 0 ≤ y ∧ y < 50331648 := by omega
 have z0 : 0 ≤ z ∧ z < 50331648 := by omega
 have x0 : (0 : Int) ≤ x ∧ (x : Int) < 50331648 := by omega
 clear hy hz hu hv
 obtain ⟨k1, h1⟩ : ∃ k : Int, k = (151) * (x : Int) + (-880) * u + (-1661) * v + (1259) := ⟨_, rfl⟩
 obtain ⟨k2, h2⟩ : ∃ k : Int, k = (-75) * (x : Int) + (-31) * u + (827) * v + (-465) := ⟨_, rfl⟩
 obtain ⟨k3, h3⟩ : ∃ k : Int, k = (97) * (x : Int) + (1073) * u + (-1074) * v + (282) := ⟨_, rfl⟩
 have ex : (x : Int) = (-854077) * k1 + (-2727373) * k2 + (-779251) * k3 + (26803280) := by omega
 have e1 : 18446744073709551616 * k1 = (-1327144894464) * ((x : Int) - (26803280)) + (3779571220480) * (y - (25928559)) + (7133940678656) * (z - (24869378)) := by omega
 have e2 : 18446744073709551616 * k2 = (-6184752906240) * ((x : Int) - (26803280)) + (133143986176) * (y - (25928559)) + (-3551937953792) * (z - (24869378)) := by omega
 have e3 : 18446744073709551616 * k3 = (-571230650368) * ((x : Int) - (26803280)) + (-4608499908608) * (y - (25928559)) + (4612794875904) * (z - (24869378)) := by omega
 clear h1 h2 h3 ey ez
 have r1 : -16 ≤ k1 ∧ k1 ≤ 16 := by
  clear ex hx hi hj e2 e3
  omega
 have r2 : -12 ≤ k2 ∧ k2 ≤ 13 := by
  clear ex hx hi hj e1 e3
  omega
 have r3 : -13 ≤ k3 ∧ k3 ≤ 13 := by
  clear ex hx hi hj e1 e2
  omega
 clear e1 e2 e3
 obtain ⟨n1, m1⟩ := Int.eq_ofNat_of_zero_le (show 0 ≤ k1 - (-16) by omega)
 obtain ⟨n2, m2⟩ := Int.eq_ofNat_of_zero_le (show 0 ≤ k2 - (-12) by omega)
 obtain ⟨n3, m3⟩ := Int.eq_ofNat_of_zero_le (show 0 ≤ k3 - (-13) by omega)
 have h := x8 all1_2 n1 n2 n3 (by omega) (by omega) (by omega) (by decide)
 have hxx : (83327251 + n1 * 4294113219 + n2 * 4292239923 + n3 * 4294188045) % 4294967296 = x := by omega
 rw [hxx] at h
 exact yU h hx hi hj
theorem all1_3 : en1 4294069353 4294755711 4288931987 57 8 (chkG 1664525 1416557407 2940799637 4190959337 25 4) 69 80114785 = true := by kernel_rfl
set_option maxHeartbeats 4000000 in
theorem pat1_3 (x : Nat) (hx : x < 50331648) (hi : (x * 1664525 + 1416557407) % 4294967296 < 50331648) (hj : (x * 2940799637 + 4190959337) % 4294967296 < 50331648) : fp 25 (2181038080 + (x * 2940799637 + 4190959337) % 4294967296) 3 4 = true := by
 obtain ⟨y, hy⟩ : ∃ y : Int, y = ((x * 1664525 + 1416557407) % 4294967296 : Nat) := ⟨_, rfl⟩
 obtain ⟨z, hz⟩ : ∃ z : Int, z = ((x * 2940799637 + 4190959337) % 4294967296 : Nat) := ⟨_, rfl⟩
 obtain ⟨u, hu⟩ : ∃ u : Int, u = ((x * 1664525 + 1416557407) / 4294967296 : Nat) := ⟨_, rfl⟩
 obtain ⟨v, hv⟩ : ∃ v : Int, v = ((x * 2940799637 + 4190959337) / 4294967296 : Nat) := ⟨_, rfl⟩
 have ey : y = (x : Int) * 1664525 + 1416557407 - 4294967296 * u := by omega
 have ez : z = (x : Int) * 2940799637 + 4190959337 - 4294967296 * v := by omega
 have y0 : 0 ≤ y ∧ y < 50331648 := by omega
 have z0 : 0 ≤ z ∧ z < 50331648 := by omega
 have x0 : (0 : Int) ≤ x ∧ (x : Int) < 50331648 := by omega
 clear hy hz hu hv
 obtain ⟨k1, h1⟩ : ∃ k : Int, k = (-1354) * (x : Int) + (856) * u + (1977) * v + (-2177) := ⟨_, rfl⟩
 obtain ⟨k2, h2⟩ : ∃ k : Int, k = (783) * (x : Int) + (2557) * u + (-1145) * v + (289) := ⟨_, rfl⟩
 obtain ⟨k3, h3⟩ : ∃ k : Int, k = (174) * (x : Int) + (-217) * u + (-254) * v + (318) := ⟨_, rfl⟩
 have ex : (x : Int) = (-897943) * k1 + (-211585) * k2 + (-6035309) * k3 + (25554416) := by omega
 have e1 : 18446744073709551616 * k1 = (-13035225743360) * ((x : Int) - (25554416)) + (-3676492005376) * (y - (24750223)) + (-8491150344192) * (z - (24892313)) := by omega
 have e2 : 18446744073709551616 * k2 = (-5033701670912) * ((x : Int) - (25554416)) + (-10982231375872) * (y - (24750223)) + (4917737553920) * (z - (24892313)) := by omega
 have e3 : 18446744073709551616 * k3 = (-940597837824) * ((x : Int) - (25554416)) + (932007903232) * (y - (24750223)) + (1090921693184) * (z - (24892313)) := by omega
 clear h1 h2 h3 ey ez
 have r1 : -34 ≤ k1 ∧ k1 ≤ 34 := by
  clear ex hx hi hj e2 e3
  omega
 have r2 : -28 ≤ k2 ∧ k2 ≤ 28 := by
  clear ex hx hi hj e1 e3
  omega
 have r3 : -3 ≤ k3 ∧ k3 ≤ 4 := by
  clear ex hx hi hj e1 e2
  omega
 clear e1 e2 e3
 obtain ⟨n1, m1⟩ := Int.eq_ofNat_of_zero_le (show 0 ≤ k1 - (-34) by omega)
 obtain ⟨n2, m2⟩ := Int.eq_ofNat_of_zero_le (show 0 ≤ k2 - (-28) by omega)
 obtain ⟨n3, m3⟩ := Int.eq_ofNat_of_zero_le (show 0 ≤ k3 - (-3) by omega)
 have h := x8 all1_3 n1 n2 n3 (by omega) (by omega) (by omega) (by decide)
 have hxx : (80114785 + n1 * 4294069353 + n2 * 4294755711 + n3 * 4288931987) % 4294967296 = x := by omega
 rw [hxx] at h
 exact yU h hx hi hj
theorem all1_4 : en1 4293308165 990832 387045 27 25 (chkG 1664525 1416557407 158984081 3405337396 24 5) 36 36543923 = true := by kernel_rfl
set_option maxHeartbeats 4000000 in
theorem pat1_4 (x : Nat) (hx : x < 50331648) (hi : (x * 1664525 + 1416557407) % 4294967296 < 50331648) (hj : (x * 158984081 + 3405337396) % 4294967296 < 50331648) : fp 24 (2181038080 + (x * 158984081 + 3405337396) % 4294967296) 3 5 = true := by
 obtain ⟨y, hy⟩ : ∃ y : Int, y = ((x * 1664525 + 1416557407) % 4294967296 : Nat) := ⟨_, rfl⟩
 obtain ⟨z, hz⟩ : ∃ z : Int, z = ((x * 158984081 + 3405337396) % 4294967296 : Nat) := ⟨_, rfl⟩
 obtain ⟨u, hu⟩ : ∃ u : Int, u = ((x * 1664525 + 1416557407) / 4294967296 : Nat) := ⟨_, rfl⟩
 obtain ⟨v, hv⟩ : ∃ v : Int, v = ((x * 158984081 + 3405337396) / 4294967296 : Nat) := ⟨_, rfl⟩
 have ey : y = (x : Int) * 1664525 + 1416557407 - 4294967296 * u := by omega
 have ez : z = (x : Int) * 158984081 + 3405337396 - 4294967296 * v := by omega
 have y0 : 0 ≤ y ∧ y < 50331648 := by omega
 have z0 : 0 ≤ z ∧ z < 50331648 := by omega
 have x0 : (0 : Int) ≤ x ∧ (x : Int) < 50331648 := by omega
 clear hy hz hu hv
 obtain ⟨k1, h1⟩ : ∃ k : Int, k = (-18) * (x : Int) + (599) * u + (480) * v + (-560) := ⟨_, rfl⟩
 obtain ⟨k2, h2⟩ : ∃ k : Int, k = (-11) * (x : Int) + (1162) * u + (285) * v + (-606) := ⟨_, rfl⟩
 obtain ⟨k3, h3⟩ : ∃ k : Int, k = (-49) * (x : Int) + (-407) * u + (1328) * v + (-916) := ⟨_, rfl⟩
 have ex : (x : Int) = (-1659131) * k1 + (990832) * k2 + (387045) * k3 + (25864052) := by omega
 have e1 : 18446744073709551616 * k1 = (-8473970475008) * ((x : Int) - (25864052)) + (-2572685410304) * (y - (25537603)) + (-2061584302080) * (z - (24106984)) := by omega
 have e2 : 18446744073709551616 * k2 = (3775276253184) * ((x : Int) - (25864052)) + (-4990751997952) * (y - (25537603)) + (-1224065679360) * (z - (24106984)) := by omega
 have e3 : 18446744073709551616 * k3 = (1670742278144) * ((x : Int) - (25864052)) + (1748051689472) * (y - (25537603)) + (-5703716569088) * (z - (24106984)) := by omega
 clear h1 h2 h3 ey ez
 have r1 : -17 ≤ k1 ∧ k1 ≤ 18 := by
  clear ex hx hi hj e2 e3
  omega
 have r2 : -13 ≤ k2 ∧ k2 ≤ 13 := by
  clear ex hx hi hj e1 e3
  omega
 have r3 : -12 ≤ k3 ∧ k3 ≤ 12 := by
  clear ex hx hi hj e1 e2
  omega
 clear e1 e2 e3
 obtain ⟨n1, m1⟩ := Int.eq_ofNat_of_zero_le (show 0 ≤ k1 - (-17) by omega)
 obtain ⟨n2, m2⟩ := Int.eq_ofNat_of_zero_le (show 0 ≤ k2 - (-13) by omega)
 obtain ⟨n3, m3⟩ := Int.eq_ofNat_of_zero_le (show 0 ≤ k3 - (-12) by omega)
 have h := x8 all1_4 n1 n2 n3 (by omega) (by omega) (by omega) (by decide)
 have hxx : (36543923 + n1 * 4293308165 + n2 * 990832 + n3 * 387045) % 4294967296 = x := by omega
 rw [hxx] at h
 exact yU h hx hi hj
end Go.Proofs.YteofmaiojepdkaaGreat
namespace Go.Proofs.YteofmaiojepdkaaGreat
theorem all1_5 : en1 1633328 477355 2789298 32 16 (chkG 1664525 1416557407 2862450781 441640195 23 6) 42 4258948107 = true := by kernel_rfl
set_option maxHeartbeats 4000000 in
theorem pat1_5 (x : Nat) (hx : x < 50331648) (hi : (x * 1664525 + 1416557407) % 4294967296 < 50331648) (hj : (x * 2862450781 + 441640195) % 4294967296 < 50331648) : fp 23 (2181038080 + (x * 2862450781 + 441640195) % 4294967296) 3 6 = true := by
 obtain ⟨y, hy⟩ : ∃ y : Int, y = ((x * 1664525 + 1416557407) % 4294967296 : Nat) := ⟨_, rfl⟩
 obtain ⟨z, hz⟩ : ∃ z : Int, z = ((x * 2862450781 + 441640195) % 4294967296 : Nat) := ⟨_, rfl⟩
 obtain ⟨u, hu⟩ : ∃ u : Int, u = ((x * 1664525 + 1416557407) / 4294967296 : Nat) := ⟨_, rfl⟩
 obtain ⟨v, hv⟩ : ∃ v : Int, v = ((x * 2862450781 + 441640195) / 4294967296 : Nat) := ⟨_, rfl⟩
 have ey : y = (x : Int) * 1664525 + 1416557407 - 4294967296 * u := by omega
 have ez : z = (x : Int) * 2862450781 + 441640195 - 4294967296 * v := by omega
 have y0 : 0 ≤ y ∧ y < 50331648 := by omega
 have z0 : 0 ≤ z ∧ z < 50331648 := by omega
 have x0 : (0 : Int) ≤ x ∧ (x : Int) < 50331648 := by omega
 clear hy hz hu hv
 obtain ⟨k1, h1⟩ : ∃ k : Int, k = (-416) * (x : Int) + (-1397) * u + (625) * v + (383) := ⟨_, rfl⟩
 obtain ⟨k2, h2⟩ : ∃ k : Int, k = (1289) * (x : Int) + (-140) * u + (-1934) * v + (229) := ⟨_, rfl⟩
 obtain ⟨k3, h3⟩ : ∃ k : Int, k = (23) * (x : Int) + (842) * u + (-35) * v + (-272) := ⟨_, rfl⟩
 have ex : (x : Int) = (1633328) * k1 + (477355) * k2 + (2789298) * k3 + (23810137) := by omega
 have e1 : 18446744073709551616 * k1 = (6717328850944) * ((x : Int) - (23810137)) + (6000069312512) * (y - (26639844)) + (-2684354560000) * (z - (26434904)) := by omega
 have e2 : 18446744073709551616 * k2 = (2534030704640) * ((x : Int) - (23810137)) + (601295421440) * (y - (26639844)) + (8306466750464) * (z - (26434904)) := by omega
 have e3 : 18446744073709551616 * k3 = (2246267895808) * ((x : Int) - (23810137)) + (-3616362463232) * (y - (26639844)) + (150323855360) * (z - (26434904)) := by omega
 clear h1 h2 h3 ey ez
 have r1 : -20 ≤ k1 ∧ k1 ≤ 21 := by
  clear ex hx hi hj e2 e3
  omega
 have r2 : -16 ≤ k2 ∧ k2 ≤ 15 := by
  clear ex hx hi hj e1 e3
  omega
 have r3 : -7 ≤ k3 ∧ k3 ≤ 8 := by
  clear ex hx hi hj e1 e2
  omega
 clear e1 e2 e3
 obtain ⟨n1, m1⟩ := Int.eq_ofNat_of_zero_le (show 0 ≤ k1 - (-20) by omega)
 obtain ⟨n2, m2⟩ := Int.eq_ofNat_of_zero_le (show 0 ≤ k2 - (-16) by omega)
 obtain ⟨n3, m3⟩ := Int.eq_ofNat_of_zero_le (show 0 ≤ k3 - (-7) by omega)
 have h := x8 all1_5 n1 n2 n3 (by omega) (by omega) (by omega) (by decide)
 have hxx : (4258948107 + n1 * 1633328 + n2 * 477355 + n3 * 2789298) % 4294967296 = x := by omega
 rw [hxx] at h
 exact yU h hx hi hj
theorem all1_6 : en1 4294559609 4291878681 4294518327 19 17 (chkG 1664525 1416557407 3211393721 254723718 22 7) 57 68397643 = true := by kernel_rfl
set_option maxHeartbeats 4000000 in
theorem pat1_6 (x : Nat) (hx : x < 50331648) (hi : (x * 1664525 + 1416557407) % 4294967296 < 50331648) (hj : (x * 3211393721 + 254723718) % 4294967296 < 50331648) : fp 22 (2181038080 + (x * 3211393721 + 254723718) % 4294967296) 3 7 = true := by
 obtain ⟨y, hy⟩ : ∃ y : Int, y = ((x * 1664525 + 1416557407) % 4294967296 : Nat) := ⟨_, rfl⟩
 obtain ⟨z, hz⟩ : ∃ z : Int, z = ((x * 3211393721 + 254723718) % 4294967296 : Nat) := ⟨_, rfl⟩
 obtain ⟨u, hu⟩ : ∃ u : Int, u = ((x * 1664525 + 1416557407) / 4294967296 : Nat) := ⟨_, rfl⟩
 obtain ⟨v, hv⟩ : ∃ v : Int, v = ((x * 3211393721 + 254723718) / 4294967296 : Nat) := ⟨_, rfl⟩
 have ey : y = (x : Int) * 1664525 + 1416557407 - 4294967296 * u := by omega
 have ez : z = (x : Int) * 3211393721 + 254723718 - 4294967296 * v := by omega
 have y0 : 0 ≤ y ∧ y < 50331648 := by omega
 have z0 : 0 ≤ z ∧ z < 50331648 := by omega
 have x0 : (0 : Int) ≤ x ∧ (x : Int) < 50331648 := by omega
 clear hy hz hu hv
 obtain ⟨k1, h1⟩ : ∃ k : Int, k = (-2331) * (x : Int) + (994) * u + (3117) * v + (-484) := ⟨_, rfl⟩
 obtain ⟨k2, h2⟩ : ∃ k : Int, k = (326) * (x : Int) + (5) * u + (-436) * v + (29) := ⟨_, rfl⟩
 obtain ⟨k3, h3⟩ : ∃ k : Int, k = (-126) * (x : Int) + (-937) * u + (169) * v + (297) := ⟨_, rfl⟩
 have ex : (x : Int) = (-407687) * k1 + (-3088615) * k2 + (-448969) * k3 + (25593120) := by omega
 have e1 : 18446744073709551616 * k1 = (-3302829850624) * ((x : Int) - (25593120)) + (-4269197492224) * (y - (24016383)) + (-13387413061632) * (z - (25574054)) := by omega
 have e2 : 18446744073709551616 * k2 = (-5304284610560) * ((x : Int) - (25593120)) + (-21474836480) * (y - (24016383)) + (1872605741056) * (z - (25574054)) := by omega
 have e3 : 18446744073709551616 * k3 = (-1597727834112) * ((x : Int) - (25593120)) + (4024384356352) * (y - (24016383)) + (-725849473024) * (z - (25574054)) := by omega
 clear h1 h2 h3 ey ez
 have r1 : -28 ≤ k1 ∧ k1 ≤ 28 := by
  clear ex hx hi hj e2 e3
  omega
 have r2 : -9 ≤ k2 ∧ k2 ≤ 9 := by
  clear ex hx hi hj e1 e3
  omega
 have r3 : -8 ≤ k3 ∧ k3 ≤ 8 := by
  clear ex hx hi hj e1 e2
  omega
 clear e1 e2 e3
 obtain ⟨n1, m1⟩ := Int.eq_ofNat_of_zero_le (show 0 ≤ k1 - (-28) by omega)
 obtain ⟨n2, m2⟩ := Int.eq_ofNat_of_zero_le (show 0 ≤ k2 - (-9) by omega)
 obtain ⟨n3, m3⟩ := Int.eq_ofNat_of_zero_le (show 0 ≤ k3 - (-8) by omega)
 have h := x8 all1_6 n1 n2 n3 (by omega) (by omega) (by omega) (by decide)
 have hxx : (68397643 + n1 * 4294559609 + n2 * 4291878681 + n3 * 4294518327) % 4294967296 = x := by omega
 rw [hxx] at h
 exact yU h hx hi hj
theorem all1_7 : en1 4294662821 2015212 4293290106 30 17 (chkG 1664525 1416557407 1851289957 536767533 21 8) 37 15078384 = true := by kernel_rfl
set_option maxHeartbeats 4000000 in
theorem pat1_7 (x : Nat) (hx : x < 50331648) (hi : (x * 1664525 + 1416557407) % 4294967296 < 50331648) (hj : (x * 1851289957 + 536767533) % 4294967296 < 50331648) : fp 21 (2181038080 + (x * 1851289957 + 536767533) % 4294967296) 3 8 = true := by
 obtain ⟨y, hy⟩ : ∃ y : Int, y = ((x * 1664525 + 1416557407) % 4294967296 : Nat) := ⟨_, rfl⟩
 obtain ⟨z, hz⟩ : ∃ z : Int, z = ((x * 1851289957 + 536767533) % 4294967296 : Nat) := ⟨_, rfl⟩
 obtain ⟨u, hu⟩ : ∃ u : Int, u = ((x * 1664525 + 1416557407) / 4294967296 : Nat) := ⟨_, rfl⟩
 obtain ⟨v, hv⟩ : ∃ v : Int, v = ((x * 1851289957 + 536767533) / 4294967296 : Nat) := ⟨_, rfl⟩
 have ey : y = (x : Int) * 1664525 + 1416557407 - 4294967296 * u := by omega
 have ez : z = (x : Int) * 1851289957 + 536767533 - 4294967296 * v := by omega
 have y0 : 0 ≤ y ∧ y < 50331648 := by omega
 have z0 : 0 ≤ z ∧ z < 50331648 := by omega
 have x0 : (0 : Int) ≤ x ∧ (x : Int) < 50331648 := by omega
 clear hy hz hu hv
 obtain ⟨k1, h1⟩ : ∃ k : Int, k = (-1039) * (x : Int) + (518) * u + (2410) * v + (-454) := ⟨_, rfl⟩
 obtain ⟨k2, h2⟩ : ∃ k : Int, k = (-142) * (x : Int) + (-625) * u + (330) * v + (153) := ⟨_, rfl⟩
 obtain ⟨k3, h3⟩ : ∃ k : Int, k = (18) * (x : Int) + (-845) * u + (-41) * v + (282) := ⟨_, rfl⟩
 have ex : (x : Int) = (-304475) * k1 + (2015212) * k2 + (-1677190) * k3 + (26408494) := by omega
 have e1 : 18446744073709551616 * k1 = (-962072674304) * ((x : Int) - (26408494)) + (-2224793059328) * (y - (24758197)) + (-10350871183360) * (z - (24369747)) := by omega
 have e2 : 18446744073709551616 * k2 = (7099580940288) * ((x : Int) - (26408494)) + (2684354560000) * (y - (24758197)) + (-1417339207680) * (z - (24369747)) := by omega
 have e3 : 18446744073709551616 * k3 = (-2293512536064) * ((x : Int) - (26408494)) + (3629247365120) * (y - (24758197)) + (176093659136) * (z - (24369747)) := by omega
 clear h1 h2 h3 ey ez
 have r1 : -18 ≤ k1 ∧ k1 ≤ 18 := by
  clear ex hx hi hj e2 e3
  omega
 have r2 : -15 ≤ k2 ∧ k2 ≤ 14 := by
  clear ex hx hi hj e1 e3
  omega
 have r3 : -8 ≤ k3 ∧ k3 ≤ 8 := by
  clear ex hx hi hj e1 e2
  omega
 clear e1 e2 e3
 obtain ⟨n1, m1⟩ := Int.eq_ofNat_of_zero_le (show 0 ≤ k1 - (-18) by omega)
 obtain ⟨n2, m2⟩ := Int.eq_ofNat_of_zero_le (show 0 ≤ k2 - (-15) by omega)
 obtain ⟨n3, m3⟩ := Int.eq_ofNat_of_zero_le (show 0 ≤ k3 - (-8) by omega)
 have h := x8 all1_7 n1 n2 n3 (by omega) (by omega) (by omega) (by decide)
 have hxx : (15078384 + n1 * 4294662821 + n2 * 2015212 + n3 * 4293290106) % 4294967296 = x := by omega
 rw [hxx] at h
 exact yU h hx hi hj
end Go.Proofs.YteofmaiojepdkaaGreat
namespace Go.Proofs.YteofmaiojepdkaaGreat
theorem all2_3 : en1 1170646 1440282 2232377 43 13 (chkG 389569705 2538613042 2940799637 4190959337 25 4) 59 4242758641 = true := by kernel_rfl
set_option maxHeartbeats 4000000 in
theorem pat2_3 (x : Nat) (hx : x < 50331648) (hi : (x * 389569705 + 2538613042) % 4294967296 < 50331648) (hj : (x * 2940799637 + 4190959337) % 4294967296 < 50331648) : fp 25 (2181038080 + (x * 2940799637 + 4190959337) % 4294967296) 3 4 = true := by
 obtain ⟨y, hy⟩ : ∃ y : Int, y = ((x * 389569705 + 2538613042) % 4294967296 : Nat) := ⟨_, rfl⟩
 obtain ⟨z, hz⟩ : ∃ z : Int, z = ((x * 2940799637 + 4190959337) % 4294967296 : Nat) := ⟨_, rfl⟩
 obtain ⟨u, hu⟩ : ∃ u : Int, u = ((x * 389569705 + 2538613042) / 4294967296 : Nat) := ⟨_, rfl⟩
 obtain ⟨v, hv⟩ : ∃ v : Int, v = ((x * 2940799637 + 4190959337) / 4294967296 : Nat) := ⟨_, rfl⟩
 have ey : y = (x : Int) * 389569705 + 2538613042 - 4294967296 * u := by omega
 have ez : z = (x : Int) * 2940799637 + 4190959337 - 4294967296 * v := by omega
 have y0 : 0 ≤ y ∧ y < 50331648 := by omega
 have z0 : 0 ≤ z ∧ z < 50331648 := by omega
 have x0 : (0 : Int) ≤ x ∧ (x : Int) < 50331648 := by omega
 clear hy hz hu hv
 obtain ⟨k1, h1⟩ : ∃ k : Int, k = (1152) * (x : Int) + (1393) * u + (-1867) * v + (985) := ⟨_, rfl⟩
 obtain ⟨k2, h2⟩ : ∃ k : Int, k = (-321) * (x : Int) + (-1715) * u + (696) * v + (321) := ⟨_, rfl⟩
 obtain ⟨k3, h3⟩ : ∃ k : Int, k = (-397) * (x : Int) + (376) * u + (530) * v + (-735) := ⟨_, rfl⟩
 have ex : (x : Int) = (1170646) * k1 + (1440282) * k2 + (2232377) * k3 + (25380263) := by omega
 have e1 : 18446744073709551616 * k1 = (7636451852288) * ((x : Int) - (25380263)) + (-5982889443328) * (y - (25766001)) + (8018703941632) * (z - (25954076)) := by omega
 have e2 : 18446744073709551616 * k2 = (5415953760256) * ((x : Int) - (25380263)) + (7365868912640) * (y - (25766001)) + (-2989297238016) * (z - (25954076)) := by omega
 have e3 : 18446744073709551616 * k3 = (764504178688) * ((x : Int) - (25380263)) + (-1614907703296) * (y - (25766001)) + (-2276332666880) * (z - (25954076)) := by omega
 clear h1 h2 h3 ey ez
 have r1 : -29 ≤ k1 ∧ k1 ≤ 29 := by
  clear ex hx hi hj e2 e3
  omega
 have r2 : -21 ≤ k2 ∧ k2 ≤ 21 := by
  clear ex hx hi hj e1 e3
  omega
 have r3 : -6 ≤ k3 ∧ k3 ≤ 6 := by
  clear ex hx hi hj e1 e2
  omega
 clear e1 e2 e3
 obtain ⟨n1, m1⟩ := Int.eq_ofNat_of_zero_le (show 0 ≤ k1 - (-29) by omega)
 obtain ⟨n2, m2⟩ := Int.eq_ofNat_of_zero_le (show 0 ≤ k2 - (-21) by omega)
 obtain ⟨n3, m3⟩ := Int.eq_ofNat_of_zero_le (show 0 ≤ k3 - (-6) by omega)
 have h := x8 all2_3 n1 n2 n3 (by omega) (by omega) (by omega) (by decide)
 have hxx : (4242758641 + n1 * 1170646 + n2 * 1440282 + n3 * 2232377) % 4294967296 = x := by omega
 rw [hxx] at h
 exact yU h hx hi hj
theorem all2_4 : en1 4293474767 881529 2377597 25 27 (chkG 389569705 2538613042 158984081 3405337396 24 5) 37 11715472 = true := by kernel_rfl
set_option maxHeartbeats 4000000 in
theorem pat2_4 (x : Nat) (hx : x < 50331648) (hi : (x * 389569705 + 2538613042) % 4294967296 < 50331648) (hj : (x * 158984081 + 3405337396) % 4294967296 < 50331648) : fp 24 (2181038080 + (x * 158984081 + 3405337396) % 4294967296) 3 5 = true := by
 obtain ⟨y, hy⟩ : ∃ y : Int, y = ((x * 389569705 + 2538613042) % 4294967296 : Nat) := ⟨_, rfl⟩
 obtain ⟨z, hz⟩ : ∃ z : Int, z = ((x * 158984081 + 3405337396) % 4294967296 : Nat) := ⟨_, rfl⟩
 obtain ⟨u, hu⟩ : ∃ u : Int, u = ((x * 389569705 + 2538613042) / 4294967296 : Nat) := ⟨_, rfl⟩
 obtain ⟨v, hv⟩ : ∃ v : Int, v = ((x * 158984081 + 3405337396) / 4294967296 : Nat) := ⟨_, rfl⟩
 have ey : y = (x : Int) * 389569705 + 2538613042 - 4294967296 * u := by omega
 have ez : z = (x : Int) * 158984081 + 3405337396 - 4294967296 * v := by omega
 have y0 : 0 ≤ y ∧ y < 50331648 := by omega
 have z0 : 0 ≤ z ∧ z < 50331648 := by omega
 have x0 : (0 : Int) ≤ x ∧ (x : Int) < 50331648 := by omega
 clear hy hz hu hv
 obtain ⟨k1, h1⟩ : ∃ k : Int, k = (13) * (x : Int) + (417) * u + (-1373) * v + (845) := ⟨_, rfl⟩
 obtain ⟨k2, h2⟩ : ∃ k : Int, k = (-156) * (x : Int) + (1766) * u + (-113) * v + (-943) := ⟨_, rfl⟩
 obtain ⟨k3, h3⟩ : ∃ k : Int, k = (66) * (x : Int) + (-393) * u + (-820) * v + (869) := ⟨_, rfl⟩
 have ex : (x : Int) = (-1492529) * k1 + (881529) * k2 + (2377597) * k3 + (26337059) := by omega
 have e1 : 18446744073709551616 * k1 = (-5927054868480) * ((x : Int) - (26337059)) + (-1791001362432) * (y - (24447821)) + (5896990097408) * (z - (24922887)) := by omega
 have e2 : 18446744073709551616 * k2 = (-1284195221504) * ((x : Int) - (26337059)) + (-7584912244736) * (y - (24447821)) + (485331304448) * (z - (24922887)) := by omega
 have e3 : 18446744073709551616 * k3 = (4514010628096) * ((x : Int) - (26337059)) + (1687922147328) * (y - (24447821)) + (3521873182720) * (z - (24922887)) := by omega
 clear h1 h2 h3 ey ez
 have r1 : -18 ≤ k1 ∧ k1 ≤ 18 := by
  clear ex hx hi hj e2 e3
  omega
 have r2 : -12 ≤ k2 ∧ k2 ≤ 12 := by
  clear ex hx hi hj e1 e3
  omega
 have r3 : -13 ≤ k3 ∧ k3 ≤ 13 := by
  clear ex hx hi hj e1 e2
  omega
 clear e1 e2 e3
 obtain ⟨n1, m1⟩ := Int.eq_ofNat_of_zero_le (show 0 ≤ k1 - (-18) by omega)
 obtain ⟨n2, m2⟩ := Int.eq_ofNat_of_zero_le (show 0 ≤ k2 - (-12) by omega)
 obtain ⟨n3, m3⟩ := Int.eq_ofNat_of_zero_le (show 0 ≤ k3 - (-13) by omega)
 have h := x8 all2_4 n1 n2 n3 (by omega) (by omega) (by omega) (by decide)
 have hxx : (11715472 + n1 * 4293474767 + n2 * 881529 + n3 * 2377597) % 4294967296 = x := by omega
 rw [hxx] at h
 exact yU h hx hi hj
theorem all2_5 : en1 61541 1756410 4292015004 38 13 (chkG 389569705 2538613042 2862450781 441640195 23 6) 41 8491405 = true := by kernel_rfl
set_option maxHeartbeats 4000000 in
theorem pat2_5 (x : Nat) (hx : x < 50331648) (hi : (x * 389569705 + 2538613042) % 4294967296 < 50331648) (hj : (x * 2862450781 + 441640195) % 4294967296 < 50331648) : fp 23 (2181038080 + (x * 2862450781 + 441640195) % 4294967296) 3 6 = true := by
 obtain ⟨y, hy⟩ : ∃ y : Int, y = ((x * 389569705 + 2538613042) % 4294967296 : Nat) := ⟨_, rfl⟩
 obtain ⟨z, hz⟩ : ∃ z : Int, z = ((x * 2862450781 + 441640195) % 4294967296 : Nat) := ⟨_, rfl⟩
 obtain ⟨u, hu⟩ : ∃ u : Int, u = ((x * 389569705 + 2538613042) / 4294967296 : Nat) := ⟨_, rfl⟩
 obtain ⟨v, hv⟩ : ∃ v : Int, v = ((x * 2862450781 + 441640195) / 4294967296 : Nat) := ⟨_, rfl⟩
 have ey : y = (x : Int) * 389569705 + 2538613042 - 4294967296 * u := by omega
 have ez : z = (x : Int) * 2862450781 + 441640195 - 4294967296 * v := by omega
 have y0 : 0 ≤ y ∧ y < 50331648 := by omega
 have z0 : 0 ≤ z ∧ z < 50331648 := by omega
 have x0 : (0 : Int) ≤ x ∧ (x : Int) < 50331648 := by omega
 clear hy hz hu hv
 obtain ⟨k1, h1⟩ : ∃ k : Int, k = (253) * (x : Int) + (-2466) * u + (-44) * v + (1453) := ⟨_, rfl⟩
 obtain ⟨k2, h2⟩ : ∃ k : Int, k = (-814) * (x : Int) + (157) * u + (1200) * v + (-220) := ⟨_, rfl⟩
 obtain ⟨k3, h3⟩ : ∃ k : Int, k = (-479) * (x : Int) + (42) * u + (713) * v + (-92) := ⟨_, rfl⟩
 have ex : (x : Int) = (61541) * k1 + (1756410) * k2 + (-2952292) * k3 + (25380263) := by omega
 have e1 : 18446744073709551616 * k1 = (-4320737099776) * ((x : Int) - (25380263)) + (10591389351936) * (y - (25766001)) + (188978561024) * (z - (24046254)) := by omega
 have e2 : 18446744073709551616 * k2 = (8336531521536) * ((x : Int) - (25380263)) + (-674309865472) * (y - (25766001)) + (-5153960755200) * (z - (24046254)) := by omega
 have e3 : 18446744073709551616 * k3 = (-1378684502016) * ((x : Int) - (25380263)) + (-180388626432) * (y - (25766001)) + (-3062311682048) * (z - (24046254)) := by omega
 clear h1 h2 h3 ey ez
 have r1 : -20 ≤ k1 ∧ k1 ≤ 20 := by
  clear ex hx hi hj e2 e3
  omega
 have r2 : -19 ≤ k2 ∧ k2 ≤ 18 := by
  clear ex hx hi hj e1 e3
  omega
 have r3 : -6 ≤ k3 ∧ k3 ≤ 6 := by
  clear ex hx hi hj e1 e2
  omega
 clear e1 e2 e3
 obtain ⟨n1, m1⟩ := Int.eq_ofNat_of_zero_le (show 0 ≤ k1 - (-20) by omega)
 obtain ⟨n2, m2⟩ := Int.eq_ofNat_of_zero_le (show 0 ≤ k2 - (-19) by omega)
 obtain ⟨n3, m3⟩ := Int.eq_ofNat_of_zero_le (show 0 ≤ k3 - (-6) by omega)
 have h := x8 all2_5 n1 n2 n3 (by omega) (by omega) (by omega) (by decide)
 have hxx : (8491405 + n1 * 61541 + n2 * 1756410 + n3 * 4292015004) % 4294967296 = x := by omega
 rw [hxx] at h
 exact yU h hx hi hj
end Go.Proofs.YteofmaiojepdkaaGreat
