/- The law ScanMany, walked. Condition: the number lies in its type's range. -/
import Derived.Test.YteofmaiojepdkaaGreatSaScB
set_option linter.all false
namespace Go.Proofs.YteofmaiojepdkaaGreat
open Go Go.RowKit Go.Maps Go.Sort
def hltB (m : Nat) : ByteArray := ⟨(List.replicate m 2).toArray⟩
theorem hltB_size (m : Nat) : (hltB m).size = m := by show (List.replicate m (2 : UInt8)).toArray.size = m; simp
theorem hltB_snoc (m : Nat) : hltB m ++ ⟨#[2]⟩ = hltB (m + 1) := by
  apply ByteArray.ext
  apply Array.toList_inj.1
  rw [ByteArray.data_append, Array.toList_append]
  show List.replicate m 2 ++ [2] = List.replicate (m + 1) 2
  rw [List.replicate_succ']
theorem rep_two (n : Nat) : List.replicate n (2 : UInt8) = ((List.range n).map fun _ => (2 : Int)).map fun n : Int => UInt8.ofNat n.toNat := by
  rw [List.map_map]
  simp [Function.comp_def, List.map_const']
theorem hltB_fil : hltB 4096 = filB fun _ => 2 := congrArg (fun l : List UInt8 => (⟨l.toArray⟩ : ByteArray)) (rep_two 4096)
set_option maxRecDepth 100000 in
set_option maxHeartbeats 4000000 in
theorem hlts_any (n : Nat) (hn : n ≤ 100000) (w : World) : Calls Tryz.prog 30 #[.int .i64 n] w fun e w' => e = .returned (.string (hltB n)) ∧ Below w.heap.size w w' := by
  go_enter Tryz.func30, Tryz.ntmps30
  go_wp2_with fail
  go_loopw [3, 4] (fun s i wr => ∃ m : Nat, m ≤ n ∧ s = .string (hltB m) ∧ i = .int .i64 m ∧ Hid (Below w.heap.size w wr)) (fun s i _ => n - (intOf i).toNat)
  case atStart => exact ⟨0, Nat.zero_le _, rfl, rfl, zh (Below.refl _ _)⟩
  case round =>
    obtain ⟨m, hm, rfl, rfl, HB⟩ := hrel
    by_cases hlt : m < n
    · have hs := hltB_size m
      have h2 := hltB_snoc m
      have HLT := zh hlt
      have HS2 := zh h2
      go_wp2_with fail
      go_roundw
      case rel => exact ⟨m + 1, HLT.out, rfl, by go_num, HB⟩
      case measure => have h1 := HLT.out; simp [intOf]; omega
    · obtain rfl : m = n := by omega
      go_wp2_with fail
      go_ret
      exact ⟨rfl, HB.out⟩
theorem many_int (n : Int) : ∃ m : Nat, 1990 ≤ m ∧ m ≤ 2010 ∧ 2000 + n.tmod 21 % 21 - 10 = (m : Int) := ⟨(2000 + n.tmod 21 % 21 - 10).toNat, by omega, by omega, by omega⟩
theorem pls_snoc (m : Nat) : zt (yJ m) ++ [.int .i64 0, .int .u16 m] = zt (yJ (m + 1)) := by
  unfold yJ
  rw [List.range_succ, List.map_append]
  show _ = zt (_ ++ [plN m])
  unfold zt
  rw [List.flatMap_append]
  rfl
abbrev imgR (g : Nat) : Obj := .cells #[.slice (some ⟨g, 0, none⟩) 1 1, .int .u16 0, .int .u16 0, .slice none 0 0, .slice none 0 0] 31
set_option maxRecDepth 100000 in
set_option maxHeartbeats 4000000 in
theorem scanmany_any (n : Int) (hn : i64ok n) (w : World) : Calls Tryz.prog 11 #[.int .i64 n] w fun e w' => e = .returned (.bool true) ∧ Below w.heap.size w w' := by
  have HSA := zh (fun W => sane_any W)
  have HHL := zh (fun W => show Calls Tryz.prog 30 #[.int .i64 4096] W fun e w' => e = .returned (.string (hltB 4096)) ∧ Below W.heap.size W w' from hlts_any 4096 (by omega) W)
  obtain ⟨m, hm1, hm2, hme⟩ := many_int n
  have HN := zh hn
  have HM1 := zh hm1
  have HM2 := zh hm2
  have HME := zh hme
  clear hn hm1 hm2 hme
  go_enter Tryz.func11, Tryz.ntmps11
  go_upto_region 2 with (go_at_call 14; (with_reducible refine (HSA.out _).mono ?_); rintro e1 w1 ⟨rfl, hb1⟩; have HB1 := zh hb1; clear hb1)
  go_upto_region 3 with (first
    | (go_at_call 30; (with_reducible refine (HHL.out _).mono ?_); rintro e2 w2 ⟨rfl, hb2⟩; have HB2 := zh (HB1.out.trans (hb2.mono HB1.out.size)); clear hb2 HB1)
    | (refine wpList_store_row rfl _ _ _ rfl _ _ rfl rfl _ _ (heap_alloc_new _ _) ?_ ?_ ?_ ?_; kernel_rfl; rfl; kernel_rfl; rw [World.setRow_alloc_new]))
  have hx := Bx.two w2 (.cells #[.string (hltB 4096)] 9) (imgR w2.heap.size)
  obtain ⟨wi, hwi⟩ : ∃ wi, (w2.alloc (.cells #[.string (hltB 4096)] 9)).alloc (imgR w2.heap.size) = wi := ⟨_, rfl⟩
  rw [hwi] at hx ⊢
  have HIV := zh (show yL wi retI (some ⟨w2.heap.size, 0, none⟩) 1 none 0 from ⟨⟨zn _, rfl, fun _ => ⟨w2.heap.size, 0, _, _, _, rfl, hx.b0, fun j hj => by
    obtain rfl : j = 0 := by simp [retI] at hj; omega
    rw [hltB_fil]; rfl⟩⟩, ⟨zn _, rfl, fun h => by cases h⟩⟩)
  have HIM := zh hx.b1
  have HBI := zh (HB2.out.trans (hx.bb.mono HB2.out.size))
  clear hx hwi HB2 HHL HSA
  have ht1 : -21 < n.tmod 21 := by have := Int.lt_tmod_of_pos n (b := 21) (by decide); omega
  have ht2 : n.tmod 21 < 21 := Int.tmod_lt_of_pos n (by decide)
  have ht3 : 0 ≤ (n.tmod 21 + 21).tmod 21 := Int.tmod_nonneg _ (by omega)
  have ht4 : (n.tmod 21 + 21).tmod 21 < 21 := Int.tmod_lt_of_pos _ (by decide)
  have hr := HN.out
  unfold i64ok at hr
  go_upto_region 5 with fail
  rw [HME.out]
  clear ht1 ht2 ht3 ht4 hr
  go_wp2_with fail
  have hm2 := HM2.out
  go_loopw [5, 7] (fun v i wr => ∃ k : Nat, k ≤ m ∧ i = .int .i64 k ∧ Hid (wr.ownsRow wi.heap.size 47 2 v k (zt (yJ k))) ∧ Hid (Below wi.heap.size wi wr)) (fun v i _ => m - (intOf i).toNat)
  case atStart => exact ⟨0, Nat.zero_le _, rfl, zh (World.ownsRow_nil _ _ _ _), zh (Below.refl _ _)⟩
  case round =>
    clear hm2
    obtain ⟨k, hk, rfl, HO, HB⟩ := hrel
    by_cases hlt : k < m
    · have HLT := zh hlt
      have hm2 := HM2.out
      have hu : IntKind.u16.wrap (k : Int) = k := by unfold IntKind.wrap; simp [IntKind.bits, IntKind.signed]; omega
      have hb2 : Below wr.heap.size wr (wr.alloc (zo (plN k))) := (Below.refl _ _).alloc (zn _) _
      have HOa := zh (HO.out.alloc (zo (plN k)))
      have HBa := zh (HB.out.trans (hb2.mono HB.out.size))
      have hk4 : k ≤ 100000000000 := by omega
      have HK4 := zh hk4
      clear hb2 hk4
      go_wp2_with (first
        | (refine yr (.tmp 24) (.tmp 28) 40 47 rfl 2 16 _ infoPlc Tryz.underlying40 rfl (by decide) (by decide) wi.heap.size HBa.out.size u5 k (zt (yJ k)) rfl HOa.out HK4.out wr.heap.size 1 _ _ _ rfl (heap_alloc_new wr _) rfl rfl (by decide) (by decide) rfl ?_
           intro ga cp w6 ho6 hg6 hv6
           have HO6 := zh ho6
           have HG6 := zh hg6
           clear ho6 hg6 hv6))
      go_roundw
      case rel => exact ⟨k + 1, HLT.out, by go_num, zh (by rw [← pls_snoc]; exact HO6.out), zh (HBa.out.trans ((((y6.refl (fun j => u5.ownBlock = some j) _).grown HG6.out (fun j e _ => e)).toBelow HBa.out.size (fun j e => (HOa.out.lt j e).1))))⟩
      case measure => have h1 := HLT.out; simp [intOf]; omega
    · obtain rfl : k = m := by omega
      obtain ⟨A, c, rfl, -⟩ := zp HO.out
      have HIMw := zh (zb HB.out HIM.out)
      have HSC := zh (show Calls Tryz.prog 17 #[.agg #[.slice (some ⟨w2.heap.size, 0, none⟩) 1 1, .int .u16 0, .int .u16 0, .slice none 0 0, .slice none 0 0], .slice A k c] wr (ScP retI (yJ k) wr) from by
        have h1 := scan_any retI retI_ok (some ⟨w2.heap.size, 0, none⟩) 1 none 0 none 0 0 (yJ k) (fun p hp => by
          obtain ⟨j, hj, rfl⟩ := moreN_mem.1 hp
          have := HM2.out
          exact ⟨⟨show _ ≤ (0 : Int) by omega, show (0 : Int) ≤ _ by omega⟩, show (0 : Int) ≤ (j : Int) ∧ (j : Int) < 65536 by omega⟩) (by rw [moreN_len]; have := HM2.out; omega) A c wr (HIV.out.below HB.out) (by rw [moreN_len]; exact rd_own HO.out) (fun g off e => by
            subst e
            exact (HO.out.lt g rfl).2)
        rw [moreN_len] at h1
        exact h1)
      clear HIM HIV
      have hm2 := HM2.out
      go_upto_region 10 with (first
        | (refine za 31 _ rfl _ rfl _ _ _ (HIMw.out) ?_ ?_ ?_; kernel_rfl; kernel_rfl)
        | (go_at_call 17; (with_reducible refine HSC.out.mono ?_); rintro e5 w5 ⟨L, vc, vr, vi, rfl, hL, hlv, hb5⟩
           have HL := zh hL
           have HB5 := zh hb5
           obtain ⟨gs, cc, -, hc, -⟩ := hlv.cls
           obtain ⟨Ac, c1, hvc, -⟩ := zp hc.own
           subst hvc
           obtain ⟨R, hR, hRT⟩ := hlv.rts
           obtain ⟨Ar, c2, hvr, -⟩ := zp hR.own
           subst hvr
           have hiss := hlv.iss
           obtain ⟨Ai, c3, hvi, -⟩ := zp hiss
           subst hvi
           have HRT := zh hRT
           have HIS := zh (rd_own hiss)
           have HLE := zh (own_max hiss)
           clear hL hb5 hlv hc hR hRT hiss)
        | (refine wpList_store_row rfl _ _ _ rfl _ _ rfl rfl _ _ (heap_alloc_new _ _) ?_ ?_ ?_ ?_; kernel_rfl; rfl; kernel_rfl; rw [World.setRow_alloc_new]))
      clear HIMw HSC
      have hk0 := HM1.out
      by_cases hmany : 2000 < k
      · obtain ⟨hr, hi⟩ := retI_many hmany HL.out
        have hrt := HRT.out
        rw [hr] at hrt
        obtain rfl : R = [] := List.map_eq_nil_iff.1 hrt.symm
        rw [hi] at HIS HLE ⊢
        clear hr hi hrt HRT HLE
        have hq : Below w5.heap.size w5 (w5.alloc (.cells #[.slice Ac gs.length c1, .slice Ar ([] : List RtR).length c2, .slice Ai ([⟨2, ⟨0, 0⟩⟩] : List zP).length c3] 38)) := (Below.refl _ _).alloc (zn _) _
        have hl6 := heap_alloc_new w5 (.cells #[.slice Ac gs.length c1, .slice Ar ([] : List RtR).length c2, .slice Ai ([⟨2, ⟨0, 0⟩⟩] : List zP).length c3] 38)
        have HIS6 := zh (HIS.out.below hq)
        have HBL := zh (HBI.out.trans ((HB.out.trans ((HB5.out.trans (hq.mono HB5.out.size)).mono HB.out.size)).mono HBI.out.size))
        obtain ⟨w6, hw6⟩ : ∃ w6, w5.alloc (.cells #[.slice Ac gs.length c1, .slice Ar ([] : List RtR).length c2, .slice Ai ([⟨2, ⟨0, 0⟩⟩] : List zP).length c3] 38) = w6 := ⟨_, rfl⟩
        rw [hw6] at hl6 hq HIS6 HBL ⊢
        have HL6 := zh hl6
        clear hw6 hq hl6 HIS HB5 HB HBI
        have hc := fun o => cell_of_row w6 w5.heap.size o _ _ _ HL6.out
        have HB4 := zh (show Below w6.heap.size w6 (w6.alloc (yZ ⟨2, ⟨0, 0⟩⟩)) from (Below.refl _ _).alloc (zn _) _)
        have HIC := zh (show Calls Tryz.prog 32 #[.slice Ai 1 c3, .slice (some ⟨w6.heap.size, 0, none⟩) 1 1] (w6.alloc (yZ ⟨2, ⟨0, 0⟩⟩)) fun e w' => e = .returned (.bool true) ∧ Below (w6.alloc (yZ ⟨2, ⟨0, 0⟩⟩)).heap.size (w6.alloc (yZ ⟨2, ⟨0, 0⟩⟩)) w' from
          issues_any [⟨2, ⟨0, 0⟩⟩] [⟨2, ⟨0, 0⟩⟩] Ai (some ⟨w6.heap.size, 0, none⟩) c3 1 _ (HIS6.out.below HB4.out) ⟨zn _, rfl, fun _ => ⟨w6.heap.size, 0, _, _, _, rfl, heap_alloc_new w6 _, fun j hj => by
            match j, hj with
            | 0, _ => rfl
            | 1, _ => rfl
            | 2, _ => rfl⟩⟩ (by decide) (by decide))
        go_upto_if 34 with fail
        go_wp2_with (first
          | (go_at_call 32; (with_reducible refine HIC.out.mono ?_); rintro e9 w9 ⟨rfl, hb9⟩; have HB9 := zh hb9; clear hb9))
        go_ret
        exact ⟨rfl, HBL.out.trans ((HB4.out.trans (HB9.out.mono HB4.out.size)).mono HBL.out.size)⟩
      · obtain ⟨hr, hi⟩ := retI_few (by omega) (by omega) HL.out
        have hrt : R.length = k := by rw [← hr, HRT.out, List.length_map]
        rw [hi] at HIS HLE ⊢
        rw [hrt]
        clear hr hi hrt HRT HLE
        have hq : Below w5.heap.size w5 (w5.alloc (.cells #[.slice Ac gs.length c1, .slice Ar k c2, .slice Ai ([] : List zP).length c3] 38)) := (Below.refl _ _).alloc (zn _) _
        have hl6 := heap_alloc_new w5 (.cells #[.slice Ac gs.length c1, .slice Ar k c2, .slice Ai ([] : List zP).length c3] 38)
        have HIS6 := zh (HIS.out.below hq)
        have HBL := zh (HBI.out.trans ((HB.out.trans ((HB5.out.trans (hq.mono HB5.out.size)).mono HB.out.size)).mono HBI.out.size))
        obtain ⟨w6, hw6⟩ : ∃ w6, w5.alloc (.cells #[.slice Ac gs.length c1, .slice Ar k c2, .slice Ai ([] : List zP).length c3] 38) = w6 := ⟨_, rfl⟩
        rw [hw6] at hl6 hq HIS6 HBL ⊢
        have HL6 := zh hl6
        clear hw6 hq hl6 HIS HB5 HB HBI
        have hc := fun o => cell_of_row w6 w5.heap.size o _ _ _ HL6.out
        go_upto_if 34 with fail
        go_wp2_with fail
        go_ret
        exact ⟨rfl, HBL.out⟩
end Go.Proofs.YteofmaiojepdkaaGreat
