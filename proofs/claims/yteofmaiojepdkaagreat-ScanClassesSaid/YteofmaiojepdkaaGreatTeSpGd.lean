/- Chapter 05 in plain Lean: the bank that vellumref04.Fill fills has few calls; images of three banks, two of which are nearly empty. No condition beyond what each states. -/
import Derived.Test.YteofmaiojepdkaaGreatTeRmC
import Derived.Test.YteofmaiojepdkaaGreatTeSpG
set_option linter.all false
namespace Go.Proofs.YteofmaiojepdkaaGreat
theorem all2_6 : en1 1284875 4292995261 4293191405 29 29 (chkG 389569705 2538613042 3211393721 254723718 22 7) 38 54257256 = true := by kernel_rfl
set_option maxHeartbeats 4000000 in
theorem pat2_6 (x : Nat) (hx : x < 50331648) (hi : (x * 389569705 + 2538613042) % 4294967296 < 50331648) (hj : (x * 3211393721 + 254723718) % 4294967296 < 50331648) : fp 22 (2181038080 + (x * 3211393721 + 254723718) % 4294967296) 3 7 = true := by
 obtain ⟨y, hy⟩ : ∃ y : Int, y = ((x * 389569705 + 2538613042) % 4294967296 : Nat) := ⟨_, rfl⟩
 obtain ⟨z, hz⟩ : ∃ z : Int, z = ((x * 3211393721 + 254723718) % 4294967296 : Nat) := ⟨_, rfl⟩
 obtain ⟨u, hu⟩ : ∃ u : Int, u = ((x * 389569705 + 2538613042) / 4294967296 : Nat) := ⟨_, rfl⟩
 obtain ⟨v, hv⟩ : ∃ v : Int, v = ((x * 3211393721 + 254723718) / 4294967296 : Nat) := ⟨_, rfl⟩
 have ey : y = (x : Int) * 389569705 + 2538613042 - 4294967296 * u := by omega
 have ez : z = (x : Int) * 3211393721 + 254723718 - 4294967296 * v := by omega
 have y0 : 0 ≤ y ∧ y < 50331648 := by omega
 have z0 : 0 ≤ z ∧ z < 50331648 := by omega
 have x0 : (0 : Int) ≤ x ∧ (x : Int) < 50331648 := by omega
 clear hy hz hu hv
 obtain ⟨k1, h1⟩ : ∃ k : Int, k = (1003) * (x : Int) + (-663) * u + (-1261) * v + (448) := ⟨_, rfl⟩
 obtain ⟨k2, h2⟩ : ∃ k : Int, k = (-21) * (x : Int) + (-1310) * u + (187) * v + (762) := ⟨_, rfl⟩
 obtain ⟨k3, h3⟩ : ∃ k : Int, k = (749) * (x : Int) + (975) * u + (-1120) * v + (-508) := ⟨_, rfl⟩
 have ex : (x : Int) = (1284875) * k1 + (-1972035) * k2 + (-1775891) * k3 + (24914042) := by omega
 have e1 : 18446744073709551616 * k1 = (5549097746432) * ((x : Int) - (24914042)) + (2847563317248) * (y - (25344444)) + (5415953760256) * (z - (24718000)) := by omega
 have e2 : 18446744073709551616 * k2 = (-4032974290944) * ((x : Int) - (24914042)) + (5626407157760) * (y - (25344444)) + (-803158884352) * (z - (24718000)) := by omega
 have e3 : 18446744073709551616 * k3 = (-1894080577536) * ((x : Int) - (24914042)) + (-4187593113600) * (y - (25344444)) + (4810363371520) * (z - (24718000)) := by omega
 clear h1 h2 h3 ey ez
 have r1 : -18 ≤ k1 ∧ k1 ≤ 19 := by
  clear ex hx hi hj e2 e3
  omega
 have r2 : -14 ≤ k2 ∧ k2 ≤ 14 := by
  clear ex hx hi hj e1 e3
  omega
 have r3 : -14 ≤ k3 ∧ k3 ≤ 14 := by
  clear ex hx hi hj e1 e2
  omega
 clear e1 e2 e3
 obtain ⟨n1, m1⟩ := Int.eq_ofNat_of_zero_le (show 0 ≤ k1 - (-18) by omega)
 obtain ⟨n2, m2⟩ := Int.eq_ofNat_of_zero_le (show 0 ≤ k2 - (-14) by omega)
 obtain ⟨n3, m3⟩ := Int.eq_ofNat_of_zero_le (show 0 ≤ k3 - (-14) by omega)
 have h := x8 all2_6 n1 n2 n3 (by omega) (by omega) (by omega) (by decide)
 have hxx : (54257256 + n1 * 1284875 + n2 * 4292995261 + n3 * 4293191405) % 4294967296 = x := by omega
 rw [hxx] at h
 exact yU h hx hi hj
theorem all2_7 : en1 4294054335 182859 3441985 23 15 (chkG 389569705 2538613042 1851289957 536767533 21 8) 70 31533172 = true := by kernel_rfl
set_option maxHeartbeats 4000000 in
theorem pat2_7 (x : Nat) (hx : x < 50331648) (hi : (x * 389569705 + 2538613042) % 4294967296 < 50331648) (hj : (x * 1851289957 + 536767533) % 4294967296 < 50331648) : fp 21 (2181038080 + (x * 1851289957 + 536767533) % 4294967296) 3 8 = true := by
 obtain ⟨y, hy⟩ : ∃ y : Int, y = ((x * 389569705 + 2538613042) % 4294967296 : Nat) := ⟨_, rfl⟩
 obtain ⟨z, hz⟩ : ∃ z : Int, z = ((x * 1851289957 + 536767533) % 4294967296 : Nat) := ⟨_, rfl⟩
 obtain ⟨u, hu⟩ : ∃ u : Int, u = ((x * 389569705 + 2538613042) / 4294967296 : Nat) := ⟨_, rfl⟩
 obtain ⟨v, hv⟩ : ∃ v : Int, v = ((x * 1851289957 + 536767533) / 4294967296 : Nat) := ⟨_, rfl⟩
 have ey : y = (x : Int) * 389569705 + 2538613042 - 4294967296 * u := by omega
 have ez : z = (x : Int) * 1851289957 + 536767533 - 4294967296 * v := by omega
 have y0 : 0 ≤ y ∧ y < 50331648 := by omega
 have z0 : 0 ≤ z ∧ z < 50331648 := by omega
 have x0 : (0 : Int) ≤ x ∧ (x : Int) < 50331648 := by omega
 clear hy hz hu hv
 obtain ⟨k1, h1⟩ : ∃ k : Int, k = (-459) * (x : Int) + (2442) * u + (551) * v + (-1477) := ⟨_, rfl⟩
 obtain ⟨k2, h2⟩ : ∃ k : Int, k = (513) * (x : Int) + (503) * u + (-1296) * v + (-141) := ⟨_, rfl⟩
 obtain ⟨k3, h3⟩ : ∃ k : Int, k = (-149) * (x : Int) + (621) * u + (215) * v + (-392) := ⟨_, rfl⟩
 have ex : (x : Int) = (-912961) * k1 + (182859) * k2 + (3441985) * k3 + (26597842) := by omega
 have e1 : 18446744073709551616 * k1 = (-12657268621312) * ((x : Int) - (26597842)) + (-10488310136832) * (y - (24407252)) + (-2366526980096) * (z - (24317447)) := by omega
 have e2 : 18446744073709551616 * k2 = (820338753536) * ((x : Int) - (26597842)) + (-2160368549888) * (y - (24407252)) + (5566277615616) * (z - (24317447)) := by omega
 have e3 : 18446744073709551616 * k3 = (1958505086976) * ((x : Int) - (26597842)) + (-2667174690816) * (y - (24407252)) + (-923417968640) * (z - (24317447)) := by omega
 clear h1 h2 h3 ey ez
 have r1 : -34 ≤ k1 ∧ k1 ≤ 35 := by
  clear ex hx hi hj e2 e3
  omega
 have r2 : -11 ≤ k2 ∧ k2 ≤ 11 := by
  clear ex hx hi hj e1 e3
  omega
 have r3 : -7 ≤ k3 ∧ k3 ≤ 7 := by
  clear ex hx hi hj e1 e2
  omega
 clear e1 e2 e3
 obtain ⟨n1, m1⟩ := Int.eq_ofNat_of_zero_le (show 0 ≤ k1 - (-34) by omega)
 obtain ⟨n2, m2⟩ := Int.eq_ofNat_of_zero_le (show 0 ≤ k2 - (-11) by omega)
 obtain ⟨n3, m3⟩ := Int.eq_ofNat_of_zero_le (show 0 ≤ k3 - (-7) by omega)
 have h := x8 all2_7 n1 n2 n3 (by omega) (by omega) (by omega) (by decide)
 have hxx : (31533172 + n1 * 4294054335 + n2 * 182859 + n3 * 3441985) % 4294967296 = x := by omega
 rw [hxx] at h
 exact yU h hx hi hj
theorem all3_4 : en1 904816 4294845485 4292268922 22 21 (chkG 2940799637 4190959337 158984081 3405337396 24 5) 69 22522719 = true := by kernel_rfl
set_option maxHeartbeats 4000000 in
theorem pat3_4 (x : Nat) (hx : x < 50331648) (hi : (x * 2940799637 + 4190959337) % 4294967296 < 50331648) (hj : (x * 158984081 + 3405337396) % 4294967296 < 50331648) : fp 24 (2181038080 + (x * 158984081 + 3405337396) % 4294967296) 3 5 = true := by
 obtain ⟨y, hy⟩ : ∃ y : Int, y = ((x * 2940799637 + 4190959337) % 4294967296 : Nat) := ⟨_, rfl⟩
 obtain ⟨z, hz⟩ : ∃ z : Int, z = ((x * 158984081 + 3405337396) % 4294967296 : Nat) := ⟨_, rfl⟩
 obtain ⟨u, hu⟩ : ∃ u : Int, u = ((x * 2940799637 + 4190959337) / 4294967296 : Nat) := ⟨_, rfl⟩
 obtain ⟨v, hv⟩ : ∃ v : Int, v = ((x * 158984081 + 3405337396) / 4294967296 : Nat) := ⟨_, rfl⟩
 have ey : y = (x : Int) * 2940799637 + 4190959337 - 4294967296 * u := by omega
 have ez : z = (x : Int) * 158984081 + 3405337396 - 4294967296 * v := by omega
 have y0 : 0 ≤ y ∧ y < 50331648 := by omega
 have z0 : 0 ≤ z ∧ z < 50331648 := by omega
 have x0 : (0 : Int) ≤ x ∧ (x : Int) < 50331648 := by omega
 clear hy hz hu hv
 obtain ⟨k1, h1⟩ : ∃ k : Int, k = (1129) * (x : Int) + (-1558) * u + (-1681) * v + (2819) := ⟨_, rfl⟩
 obtain ⟨k2, h2⟩ : ∃ k : Int, k = (633) * (x : Int) + (-962) * u + (694) * v + (388) := ⟨_, rfl⟩
 obtain ⟨k3, h3⟩ : ∃ k : Int, k = (350) * (x : Int) + (-479) * u + (-595) * v + (937) := ⟨_, rfl⟩
 have ex : (x : Int) = (904816) * k1 + (-121811) * k2 + (-2698374) * k3 + (24962802) := by omega
 have e1 : 18446744073709551616 * k1 = (11068130721792) * ((x : Int) - (24962802)) + (6691559047168) * (y - (25613763)) + (7219840024576) * (z - (25067590)) := by omega
 have e2 : 18446744073709551616 * k2 = (-910533066752) * ((x : Int) - (24962802)) + (4131758538752) * (y - (25613763)) + (-2980707303424) * (z - (25067590)) := by omega
 have e3 : 18446744073709551616 * k3 = (-3083786518528) * ((x : Int) - (24962802)) + (2057289334784) * (y - (25613763)) + (2555505541120) * (z - (25067590)) := by omega
 clear h1 h2 h3 ey ez
 have r1 : -34 ≤ k1 ∧ k1 ≤ 34 := by
  clear ex hx hi hj e2 e3
  omega
 have r2 : -11 ≤ k2 ∧ k2 ≤ 10 := by
  clear ex hx hi hj e1 e3
  omega
 have r3 : -10 ≤ k3 ∧ k3 ≤ 10 := by
  clear ex hx hi hj e1 e2
  omega
 clear e1 e2 e3
 obtain ⟨n1, m1⟩ := Int.eq_ofNat_of_zero_le (show 0 ≤ k1 - (-34) by omega)
 obtain ⟨n2, m2⟩ := Int.eq_ofNat_of_zero_le (show 0 ≤ k2 - (-11) by omega)
 obtain ⟨n3, m3⟩ := Int.eq_ofNat_of_zero_le (show 0 ≤ k3 - (-10) by omega)
 have h := x8 all3_4 n1 n2 n3 (by omega) (by omega) (by omega) (by decide)
 have hxx : (22522719 + n1 * 904816 + n2 * 4294845485 + n3 * 4292268922) % 4294967296 = x := by omega
 rw [hxx] at h
 exact yU h hx hi hj
end Go.Proofs.YteofmaiojepdkaaGreat
namespace Go.Proofs.YteofmaiojepdkaaGreat
theorem all3_5 : en1 4294474971 4293237498 2573071 40 15 (chkG 2940799637 4190959337 2862450781 441640195 23 6) 47 51558403 = true := by kernel_rfl
set_option maxHeartbeats 4000000 in
theorem pat3_5 (x : Nat) (hx : x < 50331648) (hi : (x * 2940799637 + 4190959337) % 4294967296 < 50331648) (hj : (x * 2862450781 + 441640195) % 4294967296 < 50331648) : fp 23 (2181038080 + (x * 2862450781 + 441640195) % 4294967296) 3 6 = true := by
 obtain ⟨y, hy⟩ : ∃ y : Int, y = ((x * 2940799637 + 4190959337) % 4294967296 : Nat) := ⟨_, rfl⟩
 obtain ⟨z, hz⟩ : ∃ z : Int, z = ((x * 2862450781 + 441640195) % 4294967296 : Nat) := ⟨_, rfl⟩
 obtain ⟨u, hu⟩ : ∃ u : Int, u = ((x * 2940799637 + 4190959337) / 4294967296 : Nat) := ⟨_, rfl⟩
 obtain ⟨v, hv⟩ : ∃ v : Int, v = ((x * 2862450781 + 441640195) / 4294967296 : Nat) := ⟨_, rfl⟩
 have ey : y = (x : Int) * 2940799637 + 4190959337 - 4294967296 * u := by omega
 have ez : z = (x : Int) * 2862450781 + 441640195 - 4294967296 * v := by omega
 have y0 : 0 ≤ y ∧ y < 50331648 := by omega
 have z0 : 0 ≤ z ∧ z < 50331648 := by omega
 have x0 : (0 : Int) ≤ x ∧ (x : Int) < 50331648 := by omega
 clear hy hz hu hv
 obtain ⟨k1, h1⟩ : ∃ k : Int, k = (-2101) * (x : Int) + (1222) * u + (1897) * v + (-1364) := ⟨_, rfl⟩
 obtain ⟨k2, h2⟩ : ∃ k : Int, k = (119) * (x : Int) + (747) * u + (-946) * v + (-622) := ⟨_, rfl⟩
 obtain ⟨k3, h3⟩ : ∃ k : Int, k = (-322) * (x : Int) + (736) * u + (-273) * v + (-689) := ⟨_, rfl⟩
 have ex : (x : Int) = (-492325) * k1 + (-1729798) * k2 + (2573071) * k3 + (25380263) := by omega
 have e1 : 18446744073709551616 * k1 = (-3972844748800) * ((x : Int) - (25380263)) + (-5248450035712) * (y - (25954076)) + (-8147552960512) * (z - (24046254)) := by omega
 have e2 : 18446744073709551616 * k2 = (-7572027342848) * ((x : Int) - (25380263)) + (-3208340570112) * (y - (25954076)) + (4063039062016) * (z - (24046254)) := by omega
 have e3 : 18446744073709551616 * k3 = (1318554959872) * ((x : Int) - (25380263)) + (-3161095929856) * (y - (25954076)) + (1172526071808) * (z - (24046254)) := by omega
 clear h1 h2 h3 ey ez
 have r1 : -23 ≤ k1 ∧ k1 ≤ 23 := by
  clear ex hx hi hj e2 e3
  omega
 have r2 : -19 ≤ k2 ∧ k2 ≤ 20 := by
  clear ex hx hi hj e1 e3
  omega
 have r3 : -7 ≤ k3 ∧ k3 ≤ 7 := by
  clear ex hx hi hj e1 e2
  omega
 clear e1 e2 e3
 obtain ⟨n1, m1⟩ := Int.eq_ofNat_of_zero_le (show 0 ≤ k1 - (-23) by omega)
 obtain ⟨n2, m2⟩ := Int.eq_ofNat_of_zero_le (show 0 ≤ k2 - (-19) by omega)
 obtain ⟨n3, m3⟩ := Int.eq_ofNat_of_zero_le (show 0 ≤ k3 - (-7) by omega)
 have h := x8 all3_5 n1 n2 n3 (by omega) (by omega) (by omega) (by decide)
 have hxx : (51558403 + n1 * 4294474971 + n2 * 4293237498 + n3 * 2573071) % 4294967296 = x := by omega
 rw [hxx] at h
 exact yU h hx hi hj
theorem all3_6 : en1 685194 2102215 4292728785 19 18 (chkG 2940799637 4190959337 3211393721 254723718 22 7) 84 4291398934 = true := by kernel_rfl
set_option maxHeartbeats 4000000 in
theorem pat3_6 (x : Nat) (hx : x < 50331648) (hi : (x * 2940799637 + 4190959337) % 4294967296 < 50331648) (hj : (x * 3211393721 + 254723718) % 4294967296 < 50331648) : fp 22 (2181038080 + (x * 3211393721 + 254723718) % 4294967296) 3 7 = true := by
 obtain ⟨y, hy⟩ : ∃ y : Int, y = ((x * 2940799637 + 4190959337) % 4294967296 : Nat) := ⟨_, rfl⟩
 obtain ⟨z, hz⟩ : ∃ z : Int, z = ((x * 3211393721 + 254723718) % 4294967296 : Nat) := ⟨_, rfl⟩
 obtain ⟨u, hu⟩ : ∃ u : Int, u = ((x * 2940799637 + 4190959337) / 4294967296 : Nat) := ⟨_, rfl⟩
 obtain ⟨v, hv⟩ : ∃ v : Int, v = ((x * 3211393721 + 254723718) / 4294967296 : Nat) := ⟨_, rfl⟩
 have ey : y = (x : Int) * 2940799637 + 4190959337 - 4294967296 * u := by omega
 have ez : z = (x : Int) * 3211393721 + 254723718 - 4294967296 * v := by omega
 have y0 : 0 ≤ y ∧ y < 50331648 := by omega
 have z0 : 0 ≤ z ∧ z < 50331648 := by omega
 have x0 : (0 : Int) ≤ x ∧ (x : Int) < 50331648 := by omega
 clear hy hz hu hv
 obtain ⟨k1, h1⟩ : ∃ k : Int, k = (-2587) * (x : Int) + (654) * u + (2861) * v + (-808) := ⟨_, rfl⟩
 obtain ⟨k2, h2⟩ : ∃ k : Int, k = (807) * (x : Int) + (-851) * u + (-300) * v + (839) := ⟨_, rfl⟩
 obtain ⟨k3, h3⟩ : ∃ k : Int, k = (-34) * (x : Int) + (-599) * u + (594) * v + (551) := ⟨_, rfl⟩
 have ex : (x : Int) = (685194) * k1 + (2102215) * k2 + (-2238511) * k3 + (23297928) := by omega
 have e1 : 18446744073709551616 * k1 = (15577846382592) * ((x : Int) - (23297928)) + (-2808908611584) * (y - (24740113)) + (-12287901433856) * (z - (23642062)) := by omega
 have e2 : 18446744073709551616 * k2 = (2083059138560) * ((x : Int) - (23297928)) + (3655017168896) * (y - (24740113)) + (1288490188800) * (z - (23642062)) := by omega
 have e3 : 18446744073709551616 * k3 = (-1516123455488) * ((x : Int) - (23297928)) + (2572685410304) * (y - (24740113)) + (-2551210573824) * (z - (23642062)) := by omega
 clear h1 h2 h3 ey ez
 have r1 : -41 ≤ k1 ∧ k1 ≤ 42 := by
  clear ex hx hi hj e2 e3
  omega
 have r2 : -9 ≤ k2 ∧ k2 ≤ 9 := by
  clear ex hx hi hj e1 e3
  omega
 have r3 : -9 ≤ k3 ∧ k3 ≤ 8 := by
  clear ex hx hi hj e1 e2
  omega
 clear e1 e2 e3
 obtain ⟨n1, m1⟩ := Int.eq_ofNat_of_zero_le (show 0 ≤ k1 - (-41) by omega)
 obtain ⟨n2, m2⟩ := Int.eq_ofNat_of_zero_le (show 0 ≤ k2 - (-9) by omega)
 obtain ⟨n3, m3⟩ := Int.eq_ofNat_of_zero_le (show 0 ≤ k3 - (-9) by omega)
 have h := x8 all3_6 n1 n2 n3 (by omega) (by omega) (by omega) (by decide)
 have hxx : (4291398934 + n1 * 685194 + n2 * 2102215 + n3 * 4292728785) % 4294967296 = x := by omega
 rw [hxx] at h
 exact yU h hx hi hj
theorem all3_7 : en1 4293465896 567928 1981143 45 16 (chkG 2940799637 4190959337 1851289957 536767533 21 8) 39 25631294 = true := by kernel_rfl
set_option maxHeartbeats 4000000 in
theorem pat3_7 (x : Nat) (hx : x < 50331648) (hi : (x * 2940799637 + 4190959337) % 4294967296 < 50331648) (hj : (x * 1851289957 + 536767533) % 4294967296 < 50331648) : fp 21 (2181038080 + (x * 1851289957 + 536767533) % 4294967296) 3 8 = true := by
 obtain ⟨y, hy⟩ : ∃ y : Int, y = ((x * 2940799637 + 4190959337) % 4294967296 : Nat) := ⟨_, rfl⟩
 obtain ⟨z, hz⟩ : ∃ z : Int, z = ((x * 1851289957 + 536767533) % 4294967296 : Nat) := ⟨_, rfl⟩
 obtain ⟨u, hu⟩ : ∃ u : Int, u = ((x * 2940799637 + 4190959337) / 4294967296 : Nat) := ⟨_, rfl⟩
 obtain ⟨v, hv⟩ : ∃ v : Int, v = ((x * 1851289957 + 536767533) / 4294967296 : Nat) := ⟨_, rfl⟩
 have ey : y = (x : Int) * 2940799637 + 4190959337 - 4294967296 * u := by omega
 have ez : z = (x : Int) * 1851289957 + 536767533 - 4294967296 * v := by omega
 have y0 : 0 ≤ y ∧ y < 50331648 := by omega
 have z0 : 0 ≤ z ∧ z < 50331648 := by omega
 have x0 : (0 : Int) ≤ x ∧ (x : Int) < 50331648 := by omega
 clear hy hz hu hv
 obtain ⟨k1, h1⟩ : ∃ k : Int, k = (-300) * (x : Int) + (-226) * u + (1055) * v + (106) := ⟨_, rfl⟩
 obtain ⟨k2, h2⟩ : ∃ k : Int, k = (-1571) * (x : Int) + (1663) * u + (1003) * v + (-1739) := ⟨_, rfl⟩
 obtain ⟨k3, h3⟩ : ∃ k : Int, k = (223) * (x : Int) + (-648) * u + (512) * v + (566) := ⟨_, rfl⟩
 have ex : (x : Int) = (-1501400) * k1 + (567928) * k2 + (1981143) * k3 + (25448254) := by omega
 have e1 : 18446744073709551616 * k1 = (-9135395438592) * ((x : Int) - (25448254)) + (970662608896) * (y - (26575359)) + (-4531190497280) * (z - (24907171)) := by omega
 have e2 : 18446744073709551616 * k2 = (5093831213056) * ((x : Int) - (25448254)) + (-7142530613248) * (y - (26575359)) + (-4307852197888) * (z - (24907171)) := by omega
 have e3 : 18446744073709551616 * k3 = (927712935936) * ((x : Int) - (25448254)) + (2783138807808) * (y - (26575359)) + (-2199023255552) * (z - (24907171)) := by omega
 clear h1 h2 h3 ey ez
 have r1 : -19 ≤ k1 ∧ k1 ≤ 19 := by
  clear ex hx hi hj e2 e3
  omega
 have r2 : -22 ≤ k2 ∧ k2 ≤ 22 := by
  clear ex hx hi hj e1 e3
  omega
 have r3 : -8 ≤ k3 ∧ k3 ≤ 7 := by
  clear ex hx hi hj e1 e2
  omega
 clear e1 e2 e3
 obtain ⟨n1, m1⟩ := Int.eq_ofNat_of_zero_le (show 0 ≤ k1 - (-19) by omega)
 obtain ⟨n2, m2⟩ := Int.eq_ofNat_of_zero_le (show 0 ≤ k2 - (-22) by omega)
 obtain ⟨n3, m3⟩ := Int.eq_ofNat_of_zero_le (show 0 ≤ k3 - (-8) by omega)
 have h := x8 all3_7 n1 n2 n3 (by omega) (by omega) (by omega) (by decide)
 have hxx : (25631294 + n1 * 4293465896 + n2 * 567928 + n3 * 1981143) % 4294967296 = x := by omega
 rw [hxx] at h
 exact yU h hx hi hj
end Go.Proofs.YteofmaiojepdkaaGreat
namespace Go.Proofs.YteofmaiojepdkaaGreat
set_option maxRecDepth 100000
theorem ble_true {x y : Nat} (h : x ≤ y) : Nat.ble x y = true := by rw [Nat.ble_eq]; exact h
theorem fp_stop {n s c p : Nat} (h : 4 * c ≤ p) : fp n s c p = true := by
 cases n with
 | zero => exact ble_true h
 | succ n => rw [fp_succ, ble_true h, Bool.true_or]
theorem yo {n s c p : Nat} (hh : yT (lcg s) = true) (h : fp n (lcg s) (c + 1) (p + 1) = true) : fp (n + 1) s c p = true := by
 rw [fp_succ, hh, cond_true, h, Bool.or_true]
theorem zy {n s c p : Nat} (hh : yT (lcg s) = false) (h : fp n (lcg s) c (p + 1) = true) : fp (n + 1) s c p = true := by
 rw [fp_succ, hh, cond_false, Nat.add_zero, h, Bool.or_true]
theorem hit_iff {s : Nat} : yT s = true ↔ 2181038080 ≤ s ∧ s < 2231369728 := by unfold yT; rw [Bool.and_eq_true, Nat.ble_eq, Nat.blt_eq]
def itL (s : Nat) : Nat → Nat
 | 0 => s
 | k + 1 => lcg (itL s k)
theorem hit_at {s y : Nat} (h : s = (2181038080 + y) % 4294967296) (hy : y < 4294967296) (hh : yT s = true) : y < 50331648 ∧ s = 2181038080 + y := by
 have := hit_iff.1 hh
 omega
theorem it_1 (x : Nat) : itL (2181038080 + x) 1 = (2181038080 + (x * 1664525 + 1416557407) % 4294967296) % 4294967296 := by
 show lcg (2181038080 + x) = _
 unfold lcg
 omega
theorem hit_1 {x : Nat} (h : yT (itL (2181038080 + x) 1) = true) : (x * 1664525 + 1416557407) % 4294967296 < 50331648 ∧ itL (2181038080 + x) 1 = 2181038080 + (x * 1664525 + 1416557407) % 4294967296 := hit_at (it_1 x) (Nat.mod_lt _ (by decide)) h
theorem it_2 (x : Nat) : itL (2181038080 + x) 2 = (2181038080 + (x * 389569705 + 2538613042) % 4294967296) % 4294967296 := by
 show lcg (itL (2181038080 + x) 1) = _
 rw [it_1]
 unfold lcg
 omega
theorem hit_2 {x : Nat} (h : yT (itL (2181038080 + x) 2) = true) : (x * 389569705 + 2538613042) % 4294967296 < 50331648 ∧ itL (2181038080 + x) 2 = 2181038080 + (x * 389569705 + 2538613042) % 4294967296 := hit_at (it_2 x) (Nat.mod_lt _ (by decide)) h
theorem it_3 (x : Nat) : itL (2181038080 + x) 3 = (2181038080 + (x * 2940799637 + 4190959337) % 4294967296) % 4294967296 := by
 show lcg (itL (2181038080 + x) 2) = _
 rw [it_2]
 unfold lcg
 omega
theorem hit_3 {x : Nat} (h : yT (itL (2181038080 + x) 3) = true) : (x * 2940799637 + 4190959337) % 4294967296 < 50331648 ∧ itL (2181038080 + x) 3 = 2181038080 + (x * 2940799637 + 4190959337) % 4294967296 := hit_at (it_3 x) (Nat.mod_lt _ (by decide)) h
theorem it_4 (x : Nat) : itL (2181038080 + x) 4 = (2181038080 + (x * 158984081 + 3405337396) % 4294967296) % 4294967296 := by
 show lcg (itL (2181038080 + x) 3) = _
 rw [it_3]
 unfold lcg
 omega
theorem hit_4 {x : Nat} (h : yT (itL (2181038080 + x) 4) = true) : (x * 158984081 + 3405337396) % 4294967296 < 50331648 ∧ itL (2181038080 + x) 4 = 2181038080 + (x * 158984081 + 3405337396) % 4294967296 := hit_at (it_4 x) (Nat.mod_lt _ (by decide)) h
theorem it_5 (x : Nat) : itL (2181038080 + x) 5 = (2181038080 + (x * 2862450781 + 441640195) % 4294967296) % 4294967296 := by
 show lcg (itL (2181038080 + x) 4) = _
 rw [it_4]
 unfold lcg
 omega
theorem hit_5 {x : Nat} (h : yT (itL (2181038080 + x) 5) = true) : (x * 2862450781 + 441640195) % 4294967296 < 50331648 ∧ itL (2181038080 + x) 5 = 2181038080 + (x * 2862450781 + 441640195) % 4294967296 := hit_at (it_5 x) (Nat.mod_lt _ (by decide)) h
theorem it_6 (x : Nat) : itL (2181038080 + x) 6 = (2181038080 + (x * 3211393721 + 254723718) % 4294967296) % 4294967296 := by
 show lcg (itL (2181038080 + x) 5) = _
 rw [it_5]
 unfold lcg
 omega
theorem hit_6 {x : Nat} (h : yT (itL (2181038080 + x) 6) = true) : (x * 3211393721 + 254723718) % 4294967296 < 50331648 ∧ itL (2181038080 + x) 6 = 2181038080 + (x * 3211393721 + 254723718) % 4294967296 := hit_at (it_6 x) (Nat.mod_lt _ (by decide)) h
theorem it_7 (x : Nat) : itL (2181038080 + x) 7 = (2181038080 + (x * 1851289957 + 536767533) % 4294967296) % 4294967296 := by
 show lcg (itL (2181038080 + x) 6) = _
 rw [it_6]
 unfold lcg
 omega
theorem hit_7 {x : Nat} (h : yT (itL (2181038080 + x) 7) = true) : (x * 1851289957 + 536767533) % 4294967296 < 50331648 ∧ itL (2181038080 + x) 7 = 2181038080 + (x * 1851289957 + 536767533) % 4294967296 := hit_at (it_7 x) (Nat.mod_lt _ (by decide)) h
theorem fp_all (x : Nat) (hx : x < 50331648) : fp 28 (2181038080 + x) 1 1 = true := by
 cases h1 : yT (itL (2181038080 + x) 1) with
 | true =>
  cases h2 : yT (itL (2181038080 + x) 2) with
  | true =>
   have h := pat1_2 x hx (hit_1 h1).1 (hit_2 h2).1
   rw [← (hit_2 h2).2] at h
   exact yo h1 (yo h2 (h))
  | false =>
   cases h3 : yT (itL (2181038080 + x) 3) with
   | true =>
    have h := pat1_3 x hx (hit_1 h1).1 (hit_3 h3).1
    rw [← (hit_3 h3).2] at h
    exact yo h1 (zy h2 (yo h3 (h)))
   | false =>
    cases h4 : yT (itL (2181038080 + x) 4) with
    | true =>
     have h := pat1_4 x hx (hit_1 h1).1 (hit_4 h4).1
     rw [← (hit_4 h4).2] at h
     exact yo h1 (zy h2 (zy h3 (yo h4 (h))))
    | false =>
     cases h5 : yT (itL (2181038080 + x) 5) with
     | true =>
      have h := pat1_5 x hx (hit_1 h1).1 (hit_5 h5).1
      rw [← (hit_5 h5).2] at h
      exact yo h1 (zy h2 (zy h3 (zy h4 (yo h5 (h)))))
     | false =>
      cases h6 : yT (itL (2181038080 + x) 6) with
      | true =>
       have h := pat1_6 x hx (hit_1 h1).1 (hit_6 h6).1
       rw [← (hit_6 h6).2] at h
       exact yo h1 (zy h2 (zy h3 (zy h4 (zy h5 (yo h6 (h))))))
      | false =>
       cases h7 : yT (itL (2181038080 + x) 7) with
       | true =>
        have h := pat1_7 x hx (hit_1 h1).1 (hit_7 h7).1
        rw [← (hit_7 h7).2] at h
        exact yo h1 (zy h2 (zy h3 (zy h4 (zy h5 (zy h6 (yo h7 (h)))))))
       | false =>
        exact yo h1 (zy h2 (zy h3 (zy h4 (zy h5 (zy h6 (zy h7 (fp_stop (by decide))))))))
 | false =>
  cases h2 : yT (itL (2181038080 + x) 2) with
  | true =>
   cases h3 : yT (itL (2181038080 + x) 3) with
   | true =>
    have h := pat2_3 x hx (hit_2 h2).1 (hit_3 h3).1
    rw [← (hit_3 h3).2] at h
    exact zy h1 (yo h2 (yo h3 (h)))
   | false =>
    cases h4 : yT (itL (2181038080 + x) 4) with
    | true =>
     have h := pat2_4 x hx (hit_2 h2).1 (hit_4 h4).1
     rw [← (hit_4 h4).2] at h
     exact zy h1 (yo h2 (zy h3 (yo h4 (h))))
    | false =>
     cases h5 : yT (itL (2181038080 + x) 5) with
     | true =>
      have h := pat2_5 x hx (hit_2 h2).1 (hit_5 h5).1
      rw [← (hit_5 h5).2] at h
      exact zy h1 (yo h2 (zy h3 (zy h4 (yo h5 (h)))))
     | false =>
      cases h6 : yT (itL (2181038080 + x) 6) with
      | true =>
       have h := pat2_6 x hx (hit_2 h2).1 (hit_6 h6).1
       rw [← (hit_6 h6).2] at h
       exact zy h1 (yo h2 (zy h3 (zy h4 (zy h5 (yo h6 (h))))))
      | false =>
       cases h7 : yT (itL (2181038080 + x) 7) with
       | true =>
        have h := pat2_7 x hx (hit_2 h2).1 (hit_7 h7).1
        rw [← (hit_7 h7).2] at h
        exact zy h1 (yo h2 (zy h3 (zy h4 (zy h5 (zy h6 (yo h7 (h)))))))
       | false =>
        exact zy h1 (yo h2 (zy h3 (zy h4 (zy h5 (zy h6 (zy h7 (fp_stop (by decide))))))))
  | false =>
   cases h3 : yT (itL (2181038080 + x) 3) with
   | true =>
    cases h4 : yT (itL (2181038080 + x) 4) with
    | true =>
     have h := pat3_4 x hx (hit_3 h3).1 (hit_4 h4).1
     rw [← (hit_4 h4).2] at h
     exact zy h1 (zy h2 (yo h3 (yo h4 (h))))
    | false =>
     cases h5 : yT (itL (2181038080 + x) 5) with
     | true =>
      have h := pat3_5 x hx (hit_3 h3).1 (hit_5 h5).1
      rw [← (hit_5 h5).2] at h
      exact zy h1 (zy h2 (yo h3 (zy h4 (yo h5 (h)))))
     | false =>
      cases h6 : yT (itL (2181038080 + x) 6) with
      | true =>
       have h := pat3_6 x hx (hit_3 h3).1 (hit_6 h6).1
       rw [← (hit_6 h6).2] at h
       exact zy h1 (zy h2 (yo h3 (zy h4 (zy h5 (yo h6 (h))))))
      | false =>
       cases h7 : yT (itL (2181038080 + x) 7) with
       | true =>
        have h := pat3_7 x hx (hit_3 h3).1 (hit_7 h7).1
        rw [← (hit_7 h7).2] at h
        exact zy h1 (zy h2 (yo h3 (zy h4 (zy h5 (zy h6 (yo h7 (h)))))))
       | false =>
        exact zy h1 (zy h2 (yo h3 (zy h4 (zy h5 (zy h6 (zy h7 (fp_stop (by decide))))))))
   | false =>
    exact zy h1 (zy h2 (zy h3 (fp_stop (by decide))))
theorem cnt_zero (s : Nat) : cntL s 0 = 0 := rfl
theorem cnt_succ (s k : Nat) : cntL s (k + 1) = (if yT s then 1 else 0) + cntL (lcg s) k := rfl
theorem fp_ex : ∀ {n s c p : Nat}, fp n s c p = true → ∃ d, d ≤ n ∧ 4 * (c + cntL (lcg s) d) ≤ p + d
 | 0, s, c, p, h => ⟨0, zn _, by have h1 : Nat.ble (4 * c) p = true := h; rw [Nat.ble_eq] at h1; simpa [cnt_zero] using h1⟩
 | n + 1, s, c, p, h => by
  rw [fp_succ, Bool.or_eq_true, Nat.ble_eq] at h
  rcases h with h | h
  ·exact ⟨0, Nat.zero_le _, by simpa [cnt_zero] using h⟩
  ·obtain ⟨d, hd, h⟩ := fp_ex h
   refine ⟨d + 1, by omega, ?_⟩
   have e := cnt_succ (lcg s) d
   rw [e]
   cases hh : yT (lcg s) with
   | true => rw [hh, cond_true] at h; rw [if_pos rfl]; omega
   | false => rw [hh, cond_false] at h; rw [if_neg (by decide)]; omega
theorem cnt_add : ∀ (a b s : Nat), cntL s (a + b) = cntL s a + cntL (seqL s a) b
 | 0, b, s => by rw [Nat.zero_add, cnt_zero, Nat.zero_add]; rw [seq_zero]
 | a + 1, b, s => by
  rw [show a + 1 + b = a + b + 1 by omega, cnt_succ, cnt_succ, seq_succ, cnt_add a b (lcg s)]
  omega
theorem cnt_bd : ∀ (n s : Nat), 4 * cntL s n ≤ n + 29
 | 0, s => by rw [cnt_zero]; omega
 | n + 1, s => by
  have e := cnt_succ s n
  cases hh : yT s with
  | false =>
   have := cnt_bd n (lcg s)
   rw [e, hh, if_neg (by decide)]
   omega
  | true =>
   obtain ⟨x, rfl⟩ : ∃ x, s = 2181038080 + x := ⟨s - 2181038080, by have := hit_iff.1 hh; omega⟩
   obtain ⟨d, hd, h⟩ := fp_ex (fp_all x (by have := hit_iff.1 hh; omega))
   have e2 : cntL (2181038080 + x) (d + 1) = 1 + cntL (lcg (2181038080 + x)) d := by
    rw [cnt_succ, hh, if_pos rfl]
   by_cases hn : d ≤ n
   ·have h1 := cnt_add (d + 1) (n - d) (2181038080 + x)
    rw [show d + 1 + (n - d) = n + 1 by omega] at h1
    have := cnt_bd (n - d) (seqL (2181038080 + x) (d + 1))
    omega
   ·have h1 := cnt_add (n + 1) (d - n) (2181038080 + x)
    rw [show n + 1 + (d - n) = d + 1 by omega] at h1
    omega
termination_by n => n
theorem seq_it : ∀ (k s : Nat), lcg (seqL s k) = seqL s (k + 1)
 | 0, s => by rw [seq_succ, seq_zero, seq_zero]
 | k + 1, s => by rw [seq_succ, seq_succ]; exact seq_it k (lcg s)
theorem cnt_range : ∀ (n s : Nat), (List.range n).countP (fun k => yT (seqL s k)) = cntL s n
 | 0, _ => rfl
 | n + 1, s => by
  have h0 : (fun k => yT (seqL s k)) ∘ Nat.succ = fun k => yT (seqL (lcg s) k) := funext fun k => congrArg yT (seq_succ s k)
  have h1 : yT (seqL s 0) = yT s := congrArg yT (seq_zero s)
  rw [List.range_succ_eq_map, List.countP_cons, List.countP_map, h0, cnt_range n (lcg s), cnt_succ, h1]
  omega
theorem fill_hits (s : Nat) : (List.range 4096).countP (fun k => yT (seqL s (k + 1))) ≤ 1031 := by
 have h : (List.range 4096).countP (fun k => yT (seqL s (k + 1))) = cntL (lcg s) 4096 := by
  rw [← cnt_range 4096 (lcg s)]
  exact congrArg (fun f : Nat → Bool => (List.range 4096).countP f) (funext fun k => congrArg yT (seq_succ s k))
 have := cnt_bd 4096 (lcg s)
 omega
end Go.Proofs.YteofmaiojepdkaaGreat
namespace Go.Proofs.YteofmaiojepdkaaGreat
open Go
theorem seqI_nat (s : Nat) : ∀ k, seqI (s : Int) k = (itL s k : Nat)
 | 0 => rfl
 | k + 1 => by
  rw [seqI, seqI_nat s k]
  show _ = ((lcg (itL s k) : Nat) : Int)
  unfold lcg
  omega
theorem seqL_it : ∀ (k s : Nat), seqL s k = itL s k
 | 0, s => seq_zero s
 | k + 1, s => by
  rw [← seq_it, seqL_it k s]
  rfl
theorem fil_byt (f : Nat → Int) {k : Nat} (h : k < 4096) (hf : 0 ≤ f k ∧ f k < 256) : byt (yW f) k = f k := by
 unfold byt yW
 rw [strOfNums_data, List.getD_eq_getElem?_getD]
 simp only [List.getElem?_map, List.getElem?_range h, Option.map_some, Option.getD_some]
 have h2 : (f k).toNat < 256 := by omega
 rw [UInt8.toNat_ofNat', Nat.mod_eq_of_lt h2]
 omega
theorem callC_fil (s : Int) (hs : 0 ≤ s) : callC (yW (x9 s)) ≤ 1031 := by
 obtain ⟨s, rfl⟩ := Int.eq_ofNat_of_zero_le hs
 refine Nat.le_trans ?_ (fill_hits s)
 unfold callC
 refine List.countP_mono_left fun k hk hh => ?_
 rw [fil_byt _ (List.mem_range.1 hk) (filF_bd _ _)] at hh
 unfold x9 at hh
 rw [seqI_nat] at hh
 rw [seqL_it, hit_iff]
 unfold callB at hh
 simp only [Bool.and_eq_true, decide_eq_true_eq] at hh
 omega
structure LaidI (I : zp) : Prop where
 ok : I.Ok
 bk : ∃ b0 b1 s, I.banks = [b0, b1, yW (x9 s)] ∧ 0 ≤ s ∧ nzB b0 ≤ 320 ∧ nzB b1 ≤ 310
 en : I.entry = 0
 ve : I.vector = 0 ∨ I.vector = 700
theorem LaidI.few {I : zp} (h : LaidI I) : FewI I := by
 obtain ⟨b0, b1, s, e, hs, h0, h1⟩ := h.bk
 have hz := h.ok.sz
 rw [e] at hz
 refine ⟨by rw [e]; rfl, ?_⟩
 rw [e]
 show 2 * callC b0 + callC b1 + callC (yW (x9 s)) ≤ 1990
 have k0 := callC_nz b0 (hz _ (by simp))
 have k1 := callC_nz b1 (hz _ (by simp))
 have k2 := callC_fil s hs
 omega
end Go.Proofs.YteofmaiojepdkaaGreat
