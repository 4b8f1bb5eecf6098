/- The reference of chapter 05: At, walked. Condition: the image's banks have 4096 bytes. -/
import Derived.Test.YteofmaiojepdkaaGreatTbRFldB
import Derived.Test.YteofmaiojepdkaaGreatTbSkC
set_option linter.all false
namespace Go.Proofs.YteofmaiojepdkaaGreat
open Go Go.RowKit Go.Maps
set_option maxHeartbeats 1000000
section
variable (p : zb) (p0 : 0 ≤ p.addr) (p1 : p.addr < 65536) (w : World)
include p0 p1
set_option maxHeartbeats 1000000 in
theorem rcode_any : Calls Tryz.prog 58 #[.agg #[.int .i64 p.bank, .int .u16 p.addr]] w fun e w' => e = .returned (.bool (yg p)) ∧ Below w.heap.size w w' := by
 obtain ⟨b, a⟩ := p
 dsimp only at p0 p1 ⊢
 by_cases h1 : b < 0
 ·have e : yg ⟨b, a⟩ = false := by simp [yg]; omega
  rw [e]; clear e
  go_enter Tryz.func58, Tryz.ntmps58
  go_wp2
  go_ret
  exact ⟨rfl, (Below.refl _ _).alloc (zn _) _⟩
 ·by_cases h2 : 63 < b
  ·have e : yg ⟨b, a⟩ = false := by simp [yg]; omega
   rw [e]; clear e
   have h3 : 0 ≤ b := by omega
   go_enter Tryz.func58, Tryz.ntmps58
   go_wp2
   go_ret
   exact ⟨rfl, (Below.refl _ _).alloc (zn _) _⟩
  ·have h3 : 0 ≤ b := by omega
   have h4 : b ≤ 63 := by omega
   by_cases h5 : b = 0
   ·subst h5
    by_cases h6 : a < 4096
    ·have e : yg ⟨0, a⟩ = true := by simp [yg]; omega
     rw [e]; clear e
     go_enter Tryz.func58, Tryz.ntmps58
     go_wp2
     go_ret
     exact ⟨rfl, (Below.refl _ _).alloc (zn _) _⟩
    ·have h7 : 4096 ≤ a := by omega
     by_cases h8 : a < 8192
     ·have e : yg ⟨0, a⟩ = true := by simp [yg]; omega
      rw [e]; clear e
      go_enter Tryz.func58, Tryz.ntmps58
      go_wp2
      go_ret
      exact ⟨rfl, (Below.refl _ _).alloc (zn _) _⟩
     ·have e : yg ⟨0, a⟩ = false := by simp [yg]; omega
      have h9 : 8192 ≤ a := by omega
      rw [e]; clear e
      go_enter Tryz.func58, Tryz.ntmps58
      go_wp2
      go_ret
      exact ⟨rfl, (Below.refl _ _).alloc (zn _) _⟩
   ·have hb : (b == 0) = false := by simp [h5]
    by_cases h7 : 4096 ≤ a
    ·by_cases h8 : a < 8192
     ·have e : yg ⟨b, a⟩ = true := by simp [yg]; omega
      rw [e]; clear e
      go_enter Tryz.func58, Tryz.ntmps58
      go_wp2
      go_ret
      exact ⟨rfl, (Below.refl _ _).alloc (zn _) _⟩
     ·have e : yg ⟨b, a⟩ = false := by simp [yg]; omega
      have h9 : 8192 ≤ a := by omega
      rw [e]; clear e
      go_enter Tryz.func58, Tryz.ntmps58
      go_wp2
      go_ret
      exact ⟨rfl, (Below.refl _ _).alloc (zn _) _⟩
    ·have e : yg ⟨b, a⟩ = false := by simp [yg]; omega
     have h9 : a < 4096 := by omega
     rw [e]; clear e
     go_enter Tryz.func58, Tryz.ntmps58
     go_wp2
     go_ret
     exact ⟨rfl, (Below.refl _ _).alloc (zn _) _⟩
end
section
variable (I : zk) (hI : I.Ok) (ba : Option Addr) (bc : Nat) (da : Option Addr) (dc : Nat) (ra : Option Addr) (rn rc : Nat) (p : zb) (p0 : 0 ≤ p.addr) (p1 : p.addr < 65536) (w : World) (hV : yG w I ba bc da dc)
include hI p0 p1 hV
theorem roff_in (h : inI I p = true) : Calls Tryz.prog 27 #[.agg #[.slice ba I.banks.length bc, .int .u16 I.entry, .int .u16 I.vector, .slice da I.data.length dc, .slice ra rn rc], .agg #[.int .i64 p.bank, .int .u16 p.addr]] w fun e w' =>
  e = .returned (.tuple #[.int .i64 p.bank, .int .i64 (zI p), .bool true]) ∧ Below w.heap.size w w' := by
 have hc : yg p = true ∧ p.bank < I.banks.length := by unfold inI at h; simpa using h
 have hcb : 0 ≤ p.bank := by have := hc.1; simp only [yg, Bool.and_eq_true, decide_eq_true_eq] at this; omega
 obtain ⟨k, hk⟩ := Int.eq_ofNat_of_zero_le hcb
 have hkl : k < I.banks.length := by omega
 obtain ⟨s, hs⟩ : ∃ s, I.banks[k]? = some s := ⟨_, List.getElem?_eq_getElem hkl⟩
 have hsz : s.size = 4096 := hI.sz s (List.mem_of_getElem? hs)
 have hn : I.banks.length ≤ 64 := hI.n64
 obtain ⟨g, off, rfl, hgl, hcell, -, hle⟩ := hV.bank hs
 obtain ⟨b, a⟩ := p
 dsimp only at p0 p1 hk hc hcb ⊢
 subst hk
 have hIC := fun W => rcode_any ⟨k, a⟩ p0 p1 W
 have HIC := zh hIC
 have HC := zh hc.1
 have hoff : (zI ⟨k, a⟩ : Int) = a % 4096 := by unfold zI; dsimp only; omega
 have HO := zh hoff
 have HCL := zh hcell
 have e1 := tmod_w p0
 have e2 : IntKind.u16.wrap (a % 4096) = a % 4096 := wrap_w
 have e3 : IntKind.i64.wrap (a % 4096) = a % 4096 := wrap_i
 have b1 : 0 ≤ a % 4096 := by omega
 have b2 : a % 4096 < 4096 := by omega
 have hlt : (k : Int) < I.banks.length := hc.2
 have hltn : k < I.banks.length := hkl
 clear hIC hoff hc h hcb hI hV hs hcell hkl
 rw [HO.out]
 go_enter Tryz.func27, Tryz.ntmps27
 go_wp2_with (first
  | (refine ldB ((show _ = some _ from heap_alloc_new _ _)) ?_)
  | (go_at_call 58; refine (HIC.out _).mono ?_; rintro e w1 ⟨rfl, hb1⟩; rw [HC.out]; obtain ⟨q0, q1, q2, q3⟩ := yk hb1; have HB := zh q3; have hc0 := fun o => cell_of_row w1 w.heap.size o _ _ _ q0; have hc1 := fun o => cell_of_row w1 (w.heap.size + 1) o _ _ _ q1; have hc2 : w1.cell? ⟨g, off + k, none⟩ = some (.string s) := (q3.cell (p := ⟨g, off + k, none⟩) hgl).trans HCL.out; clear hb1 q0 q1 q3))
 go_ret3
 exact ⟨rfl, HB.out⟩
theorem roff_out (h : inI I p = false) : Calls Tryz.prog 27 #[.agg #[.slice ba I.banks.length bc, .int .u16 I.entry, .int .u16 I.vector, .slice da I.data.length dc, .slice ra rn rc], .agg #[.int .i64 p.bank, .int .u16 p.addr]] w fun e w' =>
  e = .returned (.tuple #[.int .i64 0, .int .i64 0, .bool false]) ∧ Below w.heap.size w w' := by
 have hn : I.banks.length ≤ 64 := hI.n64
 have hIC := fun W => rcode_any p p0 p1 W
 have HIC := zh hIC
 have e1 := tmod_w p0
 have e2 : IntKind.u16.wrap (p.addr % 4096) = p.addr % 4096 := wrap_w
 have e3 : IntKind.i64.wrap (p.addr % 4096) = p.addr % 4096 := wrap_i
 cases hc : yg p with
 | false =>
  have HC := zh hc
  clear hIC hc h hI hV
  go_enter Tryz.func27, Tryz.ntmps27
  go_wp2_with (first
   | (refine ldB ((show _ = some _ from heap_alloc_new _ _)) ?_)
   | (go_at_call 58; refine (HIC.out _).mono ?_; rintro e w1 ⟨rfl, hb1⟩; rw [HC.out]; obtain ⟨q0, q1, q2, q3⟩ := yk hb1; have HB := zh q3; have hc0 := fun o => cell_of_row w1 w.heap.size o _ _ _ q0; have hc1 := fun o => cell_of_row w1 (w.heap.size + 1) o _ _ _ q1; clear hb1 q0 q1 q3))
  go_ret3
  exact ⟨rfl, HB.out⟩
 | true =>
  have hcb : 0 ≤ p.bank := by have := hc; simp only [yg, Bool.and_eq_true, decide_eq_true_eq] at this; omega
  have hge : (I.banks.length : Int) ≤ p.bank := by
   unfold inI at h
   rw [hc, Bool.true_and] at h
   have := of_decide_eq_false h
   omega
  obtain ⟨b, a⟩ := p
  obtain ⟨k, hk⟩ := Int.eq_ofNat_of_zero_le hcb
  dsimp only at p0 p1 hk hge hcb e1 e2 e3 HIC ⊢
  subst hk
  have hge' : I.banks.length ≤ k := by omega
  have HC := zh hc
  clear hIC hc h hI hV
  go_enter Tryz.func27, Tryz.ntmps27
  go_wp2_with (first
   | (refine ldB ((show _ = some _ from heap_alloc_new _ _)) ?_)
   | (go_at_call 58; refine (HIC.out _).mono ?_; rintro e w1 ⟨rfl, hb1⟩; rw [HC.out]; obtain ⟨q0, q1, q2, q3⟩ := yk hb1; have HB := zh q3; have hc0 := fun o => cell_of_row w1 w.heap.size o _ _ _ q0; have hc1 := fun o => cell_of_row w1 (w.heap.size + 1) o _ _ _ q1; clear hb1 q0 q1 q3))
  go_ret3
  exact ⟨rfl, HB.out⟩
end
theorem ext_min (s : ByteArray) (hs : s.size = 4096) (o m : Nat) : s.extract o (o + min m (4096 - o)) = s.extract o (o + m) := by
 apply ByteArray.ext
 simp only [ByteArray.data_extract]
 apply Array.ext_getElem?
 intro i
 simp only [Array.getElem?_extract, Array.size_extract]
 have : s.data.size = 4096 := hs
 by_cases hi : i < min m (4096 - o)
 ·rw [if_pos (by omega), if_pos (by omega)]
 ·rw [if_neg (by omega), if_neg (by omega)]
section
variable (I : zk) (hI : I.Ok) (ba : Option Addr) (bc : Nat) (da : Option Addr) (dc : Nat) (ra : Option Addr) (rn rc : Nat) (p : zb) (p0 : 0 ≤ p.addr) (p1 : p.addr < 65536) (n : Int) (n0 : -10 ≤ n) (n1 : n ≤ 10000) (w : World) (hV : yG w I ba bc da dc)
include hI p0 p1 hV n0 n1
theorem rcode_none (h : inI I p = false ∨ n < 1) : Calls Tryz.prog 55 #[.agg #[.slice ba I.banks.length bc, .int .u16 I.entry, .int .u16 I.vector, .slice da I.data.length dc, .slice ra rn rc], .agg #[.int .i64 p.bank, .int .u16 p.addr], .int .i64 n] w fun e w' =>
  e = .returned (.string ⟨#[]⟩) ∧ Below w.heap.size w w' := by
 cases hi : inI I p with
 | false =>
  have HO := zh (fun W (hV' : yG W I ba bc da dc) => roff_out I hI ba bc da dc ra rn rc p p0 p1 W hV' hi)
  have HV := zh (hV.below (((Below.refl _ w).alloc (zn _) (.cells #[.slice ba I.banks.length bc, .int .u16 I.entry, .int .u16 I.vector, .slice da I.data.length dc, .slice ra rn rc] 31)).alloc (by simp) (.cells #[.int .i64 p.bank, .int .u16 p.addr] 47)))
  clear hi h hV hI
  go_enter Tryz.func55, Tryz.ntmps55
  go_wp2_with (first
   | (refine ldB ((heap_alloc2_old _ _ _)) ?_)
   | (refine ldB ((show _ = some _ from heap_alloc_new _ _)) ?_)
   | (go_at_call 27; refine (HO.out _ HV.out).mono ?_; rintro e w1 ⟨rfl, hb1⟩; obtain ⟨-, -, -, q3⟩ := yk hb1; have HB := zh q3; clear hb1 q3))
  go_ret
  exact ⟨rfl, HB.out⟩
 | true =>
  have hn : n < 1 := h.elim (fun e => by rw [hi] at e; cases e) id
  have HO := zh (fun W (hV' : yG W I ba bc da dc) => roff_in I hI ba bc da dc ra rn rc p p0 p1 W hV' hi)
  have HV := zh (hV.below (((Below.refl _ w).alloc (zn _) (.cells #[.slice ba I.banks.length bc, .int .u16 I.entry, .int .u16 I.vector, .slice da I.data.length dc, .slice ra rn rc] 31)).alloc (by simp) (.cells #[.int .i64 p.bank, .int .u16 p.addr] 47)))
  clear hi h hV hI
  go_enter Tryz.func55, Tryz.ntmps55
  go_wp2_with (first
   | (refine ldB ((heap_alloc2_old _ _ _)) ?_)
   | (refine ldB ((show _ = some _ from heap_alloc_new _ _)) ?_)
   | (go_at_call 27; refine (HO.out _ HV.out).mono ?_; rintro e w1 ⟨rfl, hb1⟩; obtain ⟨-, -, -, q3⟩ := yk hb1; have HB := zh q3; clear hb1 q3))
  go_ret
  exact ⟨rfl, HB.out⟩
theorem rcode_some (h : inI I p = true) (hn : 1 ≤ n) : Calls Tryz.prog 55 #[.agg #[.slice ba I.banks.length bc, .int .u16 I.entry, .int .u16 I.vector, .slice da I.data.length dc, .slice ra rn rc], .agg #[.int .i64 p.bank, .int .u16 p.addr], .int .i64 n] w fun e w' =>
  e = .returned (.string ((bankI I p).extract (zI p) (zI p + n.toNat))) ∧ Below w.heap.size w w' := by
 have hc : yg p = true ∧ p.bank < I.banks.length := by have := h; unfold inI at this; simpa using this
 have hcb : 0 ≤ p.bank := by have := hc.1; simp only [yg, Bool.and_eq_true, decide_eq_true_eq] at this; omega
 obtain ⟨k, hk⟩ := Int.eq_ofNat_of_zero_le hcb
 obtain ⟨m, rfl⟩ := Int.eq_ofNat_of_zero_le (show 0 ≤ n by omega)
 have hkl : k < I.banks.length := by omega
 obtain ⟨s, hs⟩ : ∃ s, I.banks[k]? = some s := ⟨_, List.getElem?_eq_getElem hkl⟩
 have hsz : s.size = 4096 := hI.sz s (List.mem_of_getElem? hs)
 have hol : zI p < 4096 := by unfold zI; omega
 have hbk : bankI I p = s := by unfold bankI; rw [hk, Int.toNat_natCast, List.getD_eq_getElem?_getD, hs]; rfl
 have he : s.extract (zI p) (zI p + min m (4096 - zI p)) = s.extract (zI p) (zI p + m) := ext_min s hsz _ _
 have HO := zh (fun W (hV' : yG W I ba bc da dc) => roff_in I hI ba bc da dc ra rn rc p p0 p1 W hV' h)
 have HV := zh (hV.below (((Below.refl _ w).alloc (zn _) (.cells #[.slice ba I.banks.length bc, .int .u16 I.entry, .int .u16 I.vector, .slice da I.data.length dc, .slice ra rn rc] 31)).alloc (by simp) (.cells #[.int .i64 p.bank, .int .u16 p.addr] 47)))
 obtain ⟨g, off, rfl, hgl, hcell, -, hle⟩ := hV.bank hs
 have HCL := zh hcell
 obtain ⟨b, a⟩ := p
 dsimp only at p0 p1 hk HO HV hol ⊢
 subst hk
 have hlt : (k : Int) < I.banks.length := by omega
 rw [hbk, Int.toNat_natCast, ← he]
 clear h hc hcb hbk he hV hI hs hcell
 generalize zI ⟨k, a⟩ = o at *
 have hmn := nat_min m (4096 - o)
 have hmm : min m (4096 - o) ≤ 4096 - o := Nat.min_le_right _ _
 generalize min m (4096 - o) = q at *
 have ho2 : (o : Int) ≤ 4096 := by omega
 go_enter Tryz.func55, Tryz.ntmps55
 go_wp2_with (first
  | (refine ldB ((heap_alloc2_old _ _ _)) ?_)
  | (refine ldB ((show _ = some _ from heap_alloc_new _ _)) ?_)
  | (go_at_call 27; refine (HO.out _ HV.out).mono ?_; rintro e w1 ⟨rfl, hb1⟩; obtain ⟨q0, q1, q2, q3⟩ := yk hb1; have HB := zh q3; have hc0 := fun o => cell_of_row w1 w.heap.size o _ _ _ q0; have hc2 : w1.cell? ⟨g, off + k, none⟩ = some (.string s) := (q3.cell (p := ⟨g, off + k, none⟩) hgl).trans HCL.out; clear hb1 q0 q1 q3))
 all_goals
  go_ret
  first
   | (obtain rfl : q = m := by omega
      exact ⟨by show Ending.returned (.string (s.extract o ((o : Int) + (q : Int)).toNat)) = _; rw [show ((o : Int) + (q : Int)).toNat = o + q by omega], HB.out⟩)
   | (obtain rfl : q = 4096 - o := by omega
      exact ⟨by show Ending.returned (.string (s.extract o ((o : Int) + (4096 - (o : Int))).toNat)) = _; rw [show ((o : Int) + (4096 - (o : Int))).toNat = o + (4096 - o) by omega], HB.out⟩)
theorem rcode_any2 : Calls Tryz.prog 55 #[.agg #[.slice ba I.banks.length bc, .int .u16 I.entry, .int .u16 I.vector, .slice da I.data.length dc, .slice ra rn rc], .agg #[.int .i64 p.bank, .int .u16 p.addr], .int .i64 n] w fun e w' =>
  e = .returned (.string (zK I p n)) ∧ Below w.heap.size w w' := by
 unfold zK
 by_cases h : inI I p = true ∧ 1 ≤ n
 ·rw [if_pos h]
  exact rcode_some I hI ba bc da dc ra rn rc p p0 p1 n n0 n1 w hV h.1 h.2
 ·rw [if_neg h]
  refine rcode_none I hI ba bc da dc ra rn rc p p0 p1 n n0 n1 w hV ?_
  cases hi : inI I p with
  | false => exact .inl rfl
  | true => exact .inr (by rw [hi] at h; simp at h; omega)
end
section
variable (p : zb) (p0 : 0 ≤ p.addr) (p1 : p.addr < 65536) (n : Int) (n0 : -10 ≤ n) (n1 : n ≤ 10000) (w : World)
include p0 p1 n0 n1
theorem rnext_none (h : xk p n = none) : Calls Tryz.prog 50 #[.agg #[.int .i64 p.bank, .int .u16 p.addr], .int .i64 n] w fun e w' =>
  e = .returned (.tuple #[.agg #[.int .i64 0, .int .u16 0], .bool false]) ∧ Below w.heap.size w w' := by
 have HIC := zh (fun W => rcode_any p p0 p1 W)
 have hh : yg p = false ∨ (yg p = true ∧ (p.addr % 4096 + n < 0 ∨ 4096 ≤ p.addr % 4096 + n)) := by
  unfold xk at h
  split at h
  ·cases h
  ·rename_i hc
   cases hp : yg p with
   | false => exact .inl rfl
   | true => rw [hp] at hc; simp only [true_and] at hc; exact .inr ⟨rfl, by omega⟩
 clear h
 rcases hh with hc | ⟨hc, hc2⟩
 all_goals have HC := zh hc
 ·clear hc
  go_enter Tryz.func50, Tryz.ntmps50
  go_wp2_with (first
   | (refine ldB ((heap_alloc2_old _ _ _)) ?_)
   | (refine stN ?_)
   | (refine stR (HT.out) ?_)
   | (go_at_call 58; refine (HIC.out _).mono ?_; rintro e w1 ⟨rfl, hb1⟩; rw [HC.out]; obtain ⟨q0, q1, q2, q3⟩ := yk hb1; have HB := zh q3; have HT := zh q1; have hc0 := fun o => cell_of_row w1 w.heap.size o _ _ _ q0; clear hb1 q0 q1 q3))
  (refine bodyPost_ret (zd (cs := #[.int .i64 0, .int .u16 0]) (fr := (0, 0)) Tryz.results50 _ _ (w.heap.size + 1) 47 _ ?_ (setRow_heap _ _ _ _ _ _ HT.out) Tryz.underlying47 rfl (by kernel_rfl)) rfl ⟨rfl, below_setRow HB.out (by omega) _⟩; rfl)
 ·clear hc
  by_cases hn : n ≤ 8192
  ·by_cases ha : p.addr + n < 0
   ·clear hc2
    go_enter Tryz.func50, Tryz.ntmps50
    go_wp2_with (first
     | (refine ldB ((heap_alloc2_old _ _ _)) ?_)
     | (refine stN ?_)
     | (refine stR (HT.out) ?_)
     | (go_at_call 58; refine (HIC.out _).mono ?_; rintro e w1 ⟨rfl, hb1⟩; rw [HC.out]; obtain ⟨q0, q1, q2, q3⟩ := yk hb1; have HB := zh q3; have HT := zh q1; have hc0 := fun o => cell_of_row w1 w.heap.size o _ _ _ q0; clear hb1 q0 q1 q3))
    (refine bodyPost_ret (zd (cs := #[.int .i64 0, .int .u16 0]) (fr := (0, 0)) Tryz.results50 _ _ (w.heap.size + 1) 47 _ ?_ (setRow_heap _ _ _ _ _ _ HT.out) Tryz.underlying47 rfl (by kernel_rfl)) rfl ⟨rfl, below_setRow HB.out (by omega) _⟩; rfl)
   ·have a0 : 0 ≤ p.addr + n := by omega
    have t1 : (p.addr + n).tdiv 4096 = (p.addr + n) / 4096 := Int.tdiv_eq_ediv_of_nonneg a0
    have t2 : p.addr.tdiv 4096 = p.addr / 4096 := Int.tdiv_eq_ediv_of_nonneg p0
    have t3 : ((p.addr + n) / 4096 != p.addr / 4096) = true := by simp only [bne_iff_ne, ne_eq]; omega
    clear hc2
    go_enter Tryz.func50, Tryz.ntmps50
    go_wp2_with (first
     | (refine ldB ((heap_alloc2_old _ _ _)) ?_)
     | (refine stN ?_)
     | (refine stR (HT.out) ?_)
     | (go_at_call 58; refine (HIC.out _).mono ?_; rintro e w1 ⟨rfl, hb1⟩; rw [HC.out]; obtain ⟨q0, q1, q2, q3⟩ := yk hb1; have HB := zh q3; have HT := zh q1; have hc0 := fun o => cell_of_row w1 w.heap.size o _ _ _ q0; clear hb1 q0 q1 q3))
    (refine bodyPost_ret (zd (cs := #[.int .i64 0, .int .u16 0]) (fr := (0, 0)) Tryz.results50 _ _ (w.heap.size + 1) 47 _ ?_ (setRow_heap _ _ _ _ _ _ HT.out) Tryz.underlying47 rfl (by kernel_rfl)) rfl ⟨rfl, below_setRow HB.out (by omega) _⟩; rfl)
  ·have hn2 : 8192 < n := by omega
   clear hc2
   go_enter Tryz.func50, Tryz.ntmps50
   go_wp2_with (first
    | (refine ldB ((heap_alloc2_old _ _ _)) ?_)
    | (refine stN ?_)
    | (refine stR (HT.out) ?_)
    | (go_at_call 58; refine (HIC.out _).mono ?_; rintro e w1 ⟨rfl, hb1⟩; rw [HC.out]; obtain ⟨q0, q1, q2, q3⟩ := yk hb1; have HB := zh q3; have HT := zh q1; have hc0 := fun o => cell_of_row w1 w.heap.size o _ _ _ q0; clear hb1 q0 q1 q3))
   (refine bodyPost_ret (zd (cs := #[.int .i64 0, .int .u16 0]) (fr := (0, 0)) Tryz.results50 _ _ (w.heap.size + 1) 47 _ ?_ (setRow_heap _ _ _ _ _ _ HT.out) Tryz.underlying47 rfl (by kernel_rfl)) rfl ⟨rfl, below_setRow HB.out (by omega) _⟩; rfl)
theorem rnext_some {q : zb} (h : xk p n = some q) : Calls Tryz.prog 50 #[.agg #[.int .i64 p.bank, .int .u16 p.addr], .int .i64 n] w fun e w' =>
  e = .returned (.tuple #[.agg #[.int .i64 q.bank, .int .u16 q.addr], .bool true]) ∧ Below w.heap.size w w' := by
 have HIC := zh (fun W => rcode_any p p0 p1 W)
 unfold xk at h
 split at h
 ·rename_i hc
  injection h with h
  subst h
  have hd := xp hc.1
  have b5 : 0 ≤ p.addr + n := by omega
  have b6 : p.addr + n < 65536 := by omega
  have hn : n ≤ 8192 := by omega
  have t1 : (p.addr + n).tdiv 4096 = (p.addr + n) / 4096 := Int.tdiv_eq_ediv_of_nonneg b5
  have t2 : p.addr.tdiv 4096 = p.addr / 4096 := Int.tdiv_eq_ediv_of_nonneg p0
  have t3 : ((p.addr + n) / 4096 != p.addr / 4096) = false := by simp only [bne_eq_false_iff_eq]; omega
  have HC := zh hc.1
  clear hc hd
  go_enter Tryz.func50, Tryz.ntmps50
  go_wp2_with (first
   | (refine ldB ((heap_alloc2_old _ _ _)) ?_)
   | (refine stN ?_)
   | (refine stR (HT.out) ?_)
   | (go_at_call 58; refine (HIC.out _).mono ?_; rintro e w1 ⟨rfl, hb1⟩; rw [HC.out]; obtain ⟨q0, q1, q2, q3⟩ := yk hb1; have HB := zh q3; have HT := zh q1; have hc0 := fun o => cell_of_row w1 w.heap.size o _ _ _ q0; clear hb1 q0 q1 q3))
  (refine bodyPost_ret (zd (cs := #[.int .i64 p.bank, .int .u16 (p.addr + n)]) (fr := (0, 0)) Tryz.results50 _ _ (w.heap.size + 1) 47 _ ?_ (setRow_heap _ _ _ _ _ _ HT.out) Tryz.underlying47 rfl (by kernel_rfl)) rfl ⟨rfl, below_setRow HB.out (by omega) _⟩; rfl)
 ·cases h
end
end Go.Proofs.YteofmaiojepdkaaGreat
namespace Go.Proofs.YteofmaiojepdkaaGreat
open Go Go.RowKit Go.Maps
theorem rsize_same (n : Int) (h : 0 ≤ n ∧ n < 256) : zc n = zx n := by
 obtain ⟨k, rfl⟩ := Int.eq_ofNat_of_zero_le h.1
 have : ∀ k : Nat, k < 256 → zc (k : Int) = zx (k : Int) := by decide +kernel
 exact this k (by omega)
abbrev rfnd0 (k : Int) : Obj := .cells #[.int .i64 0, .int .i64 0, .int .i64 0, .int .u16 0, .int .u16 0, .int .i64 0, .int .i64 0, .int .i64 k] 67
set_option maxRecDepth 100000 in
set_option maxHeartbeats 4000000 in
theorem rat_any (I : zk) (hI : I.Ok) (ba : Option Addr) (bc : Nat) (da : Option Addr) (dc : Nat) (ra : Option Addr) (rn rc : Nat) (p : zb) (p0 : 0 ≤ p.addr) (p1 : p.addr < 65536) (w : World) (hV : yG w I ba bc da dc) :
  Calls Tryz.prog 25 #[.agg #[.slice ba I.banks.length bc, .int .u16 I.entry, .int .u16 I.vector, .slice da I.data.length dc, .slice ra rn rc], .agg #[.int .i64 p.bank, .int .u16 p.addr]] w fun e w' =>
   e = .returned (.agg #[.int .i64 (atI I p).1.op, .int .i64 (atI I p).1.d, .int .i64 (atI I p).1.s, .int .u16 (atI I p).1.imm, .int .u16 (atI I p).1.aux, .int .i64 (atI I p).1.bank, .int .i64 (atI I p).1.size, .int .i64 (atI I p).2]) ∧ Below w.heap.size w w' := by
 have HV := zh hV
 have HC1 := zh (fun W (hw : yG W I ba bc da dc) => rcode_any2 I hI ba bc da dc ra rn rc p p0 p1 1 (by omega) (by omega) W hw)
 have hsb := sizeS_bd (byt (zK I p 1) 0)
 have hbb := zL (zK I p 1) 0
 have hs2 := codeI_size I p (zx (byt (zK I p 1) 0))
 have HC2 := zh (fun W (hw : yG W I ba bc da dc) => rcode_any2 I hI ba bc da dc ra rn rc p p0 p1 (zx (byt (zK I p 1) 0)) (by omega) (by omega) W hw)
 have HSZ := zh (fun W => by have h1 := yH (byt (zK I p 1) 0) hbb.1 hbb.2 W; rw [rsize_same _ hbb] at h1; exact h1)
 have HDC := zh (fun W => show Calls Tryz.prog 57 #[.string (zK I p (zx (byt (zK I p 1) 0)))] W fun e w' => e = .returned (.tuple #[.agg #[.int .i64 (xa (zK I p (zx (byt (zK I p 1) 0)))).op, .int .i64 (xa (zK I p (zx (byt (zK I p 1) 0)))).d, .int .i64 (xa (zK I p (zx (byt (zK I p 1) 0)))).s, .int .u16 (xa (zK I p (zx (byt (zK I p 1) 0)))).imm, .int .u16 (xa (zK I p (zx (byt (zK I p 1) 0)))).aux, .int .i64 (xa (zK I p (zx (byt (zK I p 1) 0)))).bank, .int .i64 (xa (zK I p (zx (byt (zK I p 1) 0)))).size], .int .i64 (xL (zK I p (zx (byt (zK I p 1) 0))))]) ∧ Below W.heap.size W w' from rdecode_any (zK I p (zx (byt (zK I p 1) 0))) (by omega) W)
 have HN0 := zh (fun (h : xk p (zx (byt (zK I p 1) 0) - 1) = none) W => rnext_none p p0 p1 (zx (byt (zK I p 1) 0) - 1) (by omega) (by omega) W h)
 have HN1 := zh (fun q (h : xk p (zx (byt (zK I p 1) 0) - 1) = some q) W => rnext_some p p0 p1 (zx (byt (zK I p 1) 0) - 1) (by omega) (by omega) W h)
 have hix : 1 ≤ (zK I p 1).size → ∀ W, (Instr.index 9 (.string (zK I p 1)) (.int .i64 0)).run Tryz.prog W = .ok (.int .u8 (byt (zK I p 1) 0)) W := fun h0 => zl (zK I p 1) 0 h0
 obtain ⟨F, hF⟩ : ∃ F, atI I p = F := ⟨_, rfl⟩
 rw [hF]
 unfold atI at hF
 generalize zK I p 1 = s1 at *
 generalize byt s1 0 = c0 at *
 obtain ⟨c1, c2⟩ := hbb
 generalize hn : zx c0 = n at *
 generalize zK I p n = s2 at *
 clear hn hs2 hV
 have hB := Bx.three w (z6 I ba bc da dc ra rn rc) (zo p) (rfnd0 0)
 have HH := zh hB
 clear hB
 have HIX := zh hix
 clear hix
 go_enter Tryz.func25, Tryz.ntmps25
 go_upto_region 2 with (first
  | (refine ldT 31 (HH.out.b0) ?_)
  | (refine ldT 47 (HH.out.b1) ?_)
  | (go_at_call 55; (with_reducible refine (HC1.out _ (HV.out.below HH.out.bb)).mono ?_); rintro e w1 ⟨rfl, hb1⟩; have HH := zh (HH.out.stay hb1); clear hb1))
 have HF := zh hF
 clear hF
 by_cases hA : s1.size = 0
 ·have hF := HF.out
  rw [if_pos hA] at hF
  subst hF
  have hs := isEmpty_nil hA
  clear hA HF
  go_wp2_with (first
   | (refine stR (HH.out.b2) ?_))
  refine bodyPost_ret (results_cell_row (cs := #[.int .i64 0, .int .i64 0, .int .i64 0, .int .u16 0, .int .u16 0, .int .i64 0, .int .i64 0, .int .i64 45]) (fr := (0, 0)) Tryz.results25 _ _ (w.heap.size + 2) 67 _ ?_ (setRow_heap _ _ _ _ _ _ HH.out.b2) Tryz.underlying67 rfl (by kernel_rfl)) rfl ?_
  ·rfl
  ·exact ⟨rfl, below_setRow HH.out.bb (by omega) _⟩
 have hs := yV (show 1 ≤ s1.size by omega)
 have ix := HIX.out (by omega)
 have HA := zh hA
 clear hA HIX
 go_upto_region 5 with (first
  | (go_at_call 56; refine (HSZ.out _).mono ?_; rintro e w2 ⟨rfl, hb2⟩; have HH := zh (HH.out.stay hb2); clear hb2))
 by_cases hB : n = 0
 ·have hF := HF.out
  rw [if_neg HA.out, if_pos hB] at hF
  subst hF
  have hB' : (n == 0) = true := by simp [hB]
  clear hB HF HN0 HN1
  go_wp2_with (first
   | (refine stR (HH.out.b2) ?_))
  refine bodyPost_ret (results_cell_row (cs := #[.int .i64 0, .int .i64 0, .int .i64 0, .int .u16 0, .int .u16 0, .int .i64 0, .int .i64 0, .int .i64 11]) (fr := (0, 0)) Tryz.results25 _ _ (w.heap.size + 2) 67 _ ?_ (setRow_heap _ _ _ _ _ _ HH.out.b2) Tryz.underlying67 rfl (by kernel_rfl)) rfl ?_
  ·rfl
  ·exact ⟨rfl, below_setRow HH.out.bb (by omega) _⟩
 have HBB := zh hB
 have hB' : (n == 0) = false := by simp [hB]
 have hB1 : 1 ≤ n := by omega
 have hw : IntKind.i64.wrap (n - 1) = n - 1 := IntWalk.i64_in _ (by omega)
 clear hB
 go_upto_region 7 with fail
 cases hC : xk p (n - 1) with
 | none =>
  have HNX := zh (fun W => HN0.out hC W)
  have hF := HF.out
  rw [if_neg HA.out, if_neg HBB.out, if_pos (.inl (by rw [hC]; rfl))] at hF
  subst hF
  clear hC HN0 HN1 HF
  go_wp2_with (first
   | (refine ldT 47 (HH.out.b1) ?_)
   | (refine ldT 31 ((HH.out.alloc _).b0) ?_)
   | (refine ldT 47 ((HH.out.alloc _).b1) ?_)
   | (refine stN ?_)
   | (refine stR (HH.out.b2) ?_)
   | (go_at_call 55; (with_reducible refine (HC2.out _ (HV.out.below (HH.out.alloc _).bb)).mono ?_); rintro e w4 ⟨rfl, hb4⟩; have HH := zh ((HH.out.alloc _).stay hb4); clear hb4)
   | (go_at_call 50; refine (HNX.out _).mono ?_; rintro e w3 ⟨rfl, hb3⟩; have HH := zh (HH.out.stay hb3); clear hb3))
  refine bodyPost_ret (results_cell_row (cs := #[.int .i64 0, .int .i64 0, .int .i64 0, .int .u16 0, .int .u16 0, .int .i64 0, .int .i64 0, .int .i64 45]) (fr := (0, 0)) Tryz.results25 _ _ (w.heap.size + 2) 67 _ ?_ (setRow_heap _ _ _ _ _ _ HH.out.b2) Tryz.underlying67 rfl (by kernel_rfl)) rfl ?_
  ·rfl
  ·exact ⟨rfl, below_setRow HH.out.bb (by omega) _⟩
 | some q =>
  have HNX := zh (fun W => HN1.out q hC W)
  clear HN0 HN1
  go_upto_region 9 with (first
   | (refine ldT 47 (HH.out.b1) ?_)
   | (refine ldT 31 ((HH.out.alloc _).b0) ?_)
   | (refine ldT 47 ((HH.out.alloc _).b1) ?_)
   | (refine stN ?_)
   | (go_at_call 55; (with_reducible refine (HC2.out _ (HV.out.below (HH.out.alloc _).bb)).mono ?_); rintro e w4 ⟨rfl, hb4⟩; have HH := zh ((HH.out.alloc _).stay hb4); clear hb4)
   | (go_at_call 50; refine (HNX.out _).mono ?_; rintro e w3 ⟨rfl, hb3⟩; have HH := zh (HH.out.stay hb3); clear hb3))
  by_cases hD : (s2.size : Int) < n
  ·have hF := HF.out
   rw [if_neg HA.out, if_neg HBB.out, if_pos (.inr hD)] at hF
   subst hF
   clear hC HF
   go_wp2_with (first
    | (refine stR (HH.out.b2) ?_))
   refine bodyPost_ret (results_cell_row (cs := #[.int .i64 0, .int .i64 0, .int .i64 0, .int .u16 0, .int .u16 0, .int .i64 0, .int .i64 0, .int .i64 45]) (fr := (0, 0)) Tryz.results25 _ _ (w.heap.size + 2) 67 _ ?_ (setRow_heap _ _ _ _ _ _ HH.out.b2) Tryz.underlying67 rfl (by kernel_rfl)) rfl ?_
   ·rfl
   ·exact ⟨rfl, below_setRow HH.out.bb (by omega) _⟩
  ·have hF := HF.out
   rw [if_neg HA.out, if_neg HBB.out, if_neg (by rw [hC]; simp [hD])] at hF
   have hD' : n ≤ s2.size := by omega
   have HF2 := zh hF
   clear hC HF hF hD
   generalize xa s2 = x2 at *
   generalize xL s2 = e2 at *
   go_upto_region 12 with (first
    | (refine stN ?_)
    | (go_at_call 57; refine (HDC.out _).mono ?_; rintro e w5 ⟨rfl, hb5⟩; have HH := zh (HH.out.stay hb5); clear hb5))
   by_cases hE : e2 = 0
   ·have hF := HF2.out
    rw [if_pos hE] at hF
    subst hF
    have hE' : (e2 == 0) = true := by simp [hE]
    have hE2 : (e2 != 0) = false := by simp [hE]
    clear hE HF2
    go_wp2_with (first
     | (refine ldT 53 (heap_alloc_new _ _) ?_)
     | (refine stR ((HH.out.alloc _).b2) ?_))
    refine bodyPost_ret (results_cell_row (cs := #[.int .i64 x2.op, .int .i64 x2.d, .int .i64 x2.s, .int .u16 x2.imm, .int .u16 x2.aux, .int .i64 x2.bank, .int .i64 x2.size, .int .i64 0]) (fr := (0, 0)) Tryz.results25 _ _ (w.heap.size + 2) 67 _ ?_ (setRow_heap _ _ _ _ _ _ (HH.out.alloc _).b2) Tryz.underlying67 rfl (by kernel_rfl)) rfl ?_
    ·rfl
    ·exact ⟨rfl, below_setRow (HH.out.alloc _).bb (by omega) _⟩
   ·have hF := HF2.out
    rw [if_neg hE] at hF
    subst hF
    have hE' : (e2 == 0) = false := by simp [hE]
    have hE2 : (e2 != 0) = true := by simp [hE]
    clear hE HF2
    go_wp2_with (first
     | (refine stR ((HH.out.alloc _).b2) ?_))
    refine bodyPost_ret (results_cell_row (cs := #[.int .i64 0, .int .i64 0, .int .i64 0, .int .u16 0, .int .u16 0, .int .i64 0, .int .i64 0, .int .i64 11]) (fr := (0, 0)) Tryz.results25 _ _ (w.heap.size + 2) 67 _ ?_ (setRow_heap _ _ _ _ _ _ (HH.out.alloc _).b2) Tryz.underlying67 rfl (by kernel_rfl)) rfl ?_
    ·rfl
    ·exact ⟨rfl, below_setRow (HH.out.alloc _).bb (by omega) _⟩
end Go.Proofs.YteofmaiojepdkaaGreat
