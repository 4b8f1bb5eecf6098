/- package scan: flow.entry, walked. Condition: addresses are words; the image's banks have 4096 bytes. -/
import Derived.Test.YteofmaiojepdkaaGreatTbSkC
set_option linter.all false
namespace Go.Proofs.YteofmaiojepdkaaGreat
open Go Go.RowKit Go.Maps
theorem y7 : (Tryz.prog.info? 47).map (fun i => (i.zero, i.size, i.bytes)) = some (some (.agg #[.int .i64 0, .int .u16 0]), 2, 16) := by kernel_rfl
theorem src_blk {w : World} {g m s : Nat} {cs : Array Value} {T : TypeId} {fr : Nat × Nat} (hg : w.heap[g]? = some (.cells cs T fr)) (hc : cs.size = m * s) : SrcW w s (some ⟨g, 0, none⟩) m cs.toList :=
 ⟨by rw [Array.length_toList, hc], fun _ => ⟨_, rfl, fun j u hu => by
  have e : (⟨g, 0, none⟩ : Addr).add j = ⟨g, j, none⟩ := by unfold Addr.add; split <;> simp_all
  rw [e, cell_of_row _ _ _ _ _ _ hg]
  rwa [Array.getElem?_toList] at hu⟩⟩
section
variable {P : Program} {w : World} {ops : Array Oper} {o : Oper} {a : Act} {Q : Exit → Act → World → Prop} (s x : Operand) (t e : TypeId) (ho : o.op = .call { callee := .builtin .append, args := #[s, x], argTypes := #[t, t] })
  (size bytes : Nat) (zv : Value) (hinfo : (P.info? e).map (fun i => (i.zero, i.size, i.bytes)) = some (some zv, size, bytes)) (ht : P.underlying t = some (.slice e)) (hzs : zv.cells.size = size) (hsz : 0 < size) (hb : bytes ≤ 1000)
  (B : Nat) (hB : B ≤ w.heap.size) (v : Value) (n : Nat) (xs : List Value) (hs : a.eval s = v) (hown : w.ownsRow B e size v n xs) (hn : n ≤ 100000000000)
  (g m : Nat) (cs : Array Value) (T : TypeId) (fr : Nat × Nat) (hx : a.eval x = .slice (some ⟨g, 0, none⟩) m m) (hg : w.heap[g]? = some (.cells cs T fr)) (hcs : cs.size = m * size) (h1 : cs.toList.all (·.oneCell') = true) (hm : 0 < m) (hm2 : m ≤ 1000)
include ho hinfo ht hzs hsz hb hB hs hown hn hx hg hcs h1 hm hm2
theorem xq {K : Act → World → Prop} (h : ∀ ga cp w', w'.ownsRow B e size (.slice (some ⟨ga, 0, none⟩) (n + m) cp) (n + m) (xs ++ cs.toList) → w.grownBy w' v.ownBlock → (some ga = v.ownBlock ∨ some ga = some w.heap.size) → K (a.put o.dst (.slice (some ⟨ga, 0, none⟩) (n + m) cp)) w') : o.wp P a w K Q := by
 obtain ⟨i3, hi3, hz3, hz31, hz32⟩ := info_parts hinfo
 refine wp_append_src w s x t ho B e i3 zv size bytes ht hi3 hz3 hz31 hz32 hzs hsz v n xs hs hown (some ⟨g, 0, none⟩) m m (fun h => by cases h) cs.toList hx (src_blk hg hcs) (fun u hu => List.all_eq_true.1 h1 u hu) (by unfold maxLen; omega) (by
  have : (n + m) * bytes ≤ 100000001000 * 1000 := Nat.mul_le_mul (by omega) hb
  omega) hB fun v' w' h2 h3 h4 => ?_
 obtain ⟨ga, cp, rfl⟩ : ∃ ga cp, v' = .slice (some ⟨ga, 0, none⟩) (n + m) cp := by
  rcases h2.2 with ⟨-, h⟩ | ⟨g', cap, cur, h, -⟩
  ·omega
  ·exact ⟨g', cap, h⟩
 exact h ga cp w' h2 h3 h4
theorem zJ {rest : List Oper} (hgd : o.guard = none) (h : ∀ ga cp w', w'.ownsRow B e size (.slice (some ⟨ga, 0, none⟩) (n + m) cp) (n + m) (xs ++ cs.toList) → w.grownBy w' v.ownBlock → (some ga = v.ownBlock ∨ some ga = some w.heap.size) → wpList P ops Q rest (a.put o.dst (.slice (some ⟨ga, 0, none⟩) (n + m) cp)) w') : wpList P ops Q (o :: rest) a w :=
 wpList_plain hgd fun _ hK => xq s x t e ho size bytes zv hinfo ht hzs hsz hb B hB v n xs hs hown hn g m cs T fr hx hg hcs h1 hm hm2 fun ga cp w' h2 h3 h4 => hK _ _ (h ga cp w' h2 h3 h4)
end
theorem flow_bank {f : zO} (e : Int) : e ∈ ({ f with xb := true } : zO).iss ↔ e = 42 ∨ e ∈ f.iss := by
 simp only [mem_iss]
 by_cases h : e = 42 <;> simp [h]
set_option maxRecDepth 100000 in
set_option maxHeartbeats 1000000 in
theorem to_no (B : Nat) (f : zO) (gf gi : Nat) (p : zb) (w : World) (l : List (Int × Value)) (vn vc vt : Value) (h : yK B f gf gi l vn vc vt w) (hB : B ≤ w.heap.size) :
  Calls Tryz.prog 111 #[.pointer (some ⟨gf, 0, none⟩), .agg #[.int .i64 p.bank, .int .u16 p.addr], .bool false] w (FlowP B (toF f none) gf gi w) := by
 have H := zh h
 have hb0 : ∀ x, Below w.heap.size w (w.alloc x) := fun x => (Below.refl _ _).alloc (zn _) _
 have hcs : ∀ x o, (w.alloc x).cell? ⟨gf, o, none⟩ = (#[vn, vc, .map (some gi), vt] : Array Value)[o]? := fun x o => cell_of_row _ _ _ _ _ _ (za (hb0 x) H.out.blk)
 have HM := zh (fun x => (za (hb0 x) H.out.mp))
 clear h
 go_enter Tryz.func111, Tryz.ntmps111
 go_wp2_with (refine zZ errKey Tryz.underlying155 (HM.out _) rfl _ _ _ rfl rfl 42 rfl (.bool true) rfl ?_; intro w1 hm1 hg1 hz1)
 go_end0
 refine ⟨rfl, ⟨_, vn, vc, vt, (H.out.below (hb0 _)).issue hm1 hg1 rfl rfl rfl flow_bank⟩, ?_⟩
 exact ((Below.refl B w).alloc hB _).grown hg1 (by simp; omega) (fun k e => by injection e with e; rw [← e]; exact H.out.bi)
set_option maxRecDepth 100000 in
set_option maxHeartbeats 1000000 in
theorem to_yes (B : Nat) (f : zO) (gf gi : Nat) (p : zb) (w : World) (l : List (Int × Value)) (vn vc vt : Value) (h : yK B f gf gi l vn vc vt w) (hB : B ≤ w.heap.size) (hlen : f.nx.length ≤ 1000) :
  Calls Tryz.prog 111 #[.pointer (some ⟨gf, 0, none⟩), .agg #[.int .i64 p.bank, .int .u16 p.addr], .bool true] w (FlowP B (toF f (some p)) gf gi w) := by
 have H := zh h
 obtain ⟨i0, hi, hz0, hz1, hz2⟩ := info_parts y7
 have hb0 : ∀ x, Below w.heap.size w (w.alloc x) := fun x => (Below.refl _ _).alloc (zn _) _
 have HB0 := zh hb0
 clear h hb0
 go_enter Tryz.func111, Tryz.ntmps111
 go_wp2_with fail
 refine zr (S := fun W => (∀ o, W.cell? ⟨gf, o, none⟩ = (#[vn, vc, .map (some gi), vt] : Array Value)[o]?) ∧ ∀ o, W.cell? ⟨w.heap.size, o, none⟩ = (#[.int .i64 p.bank, .int .u16 p.addr] : Array Value)[o]?) [8, 9, 10] (by kernel_rfl) ⟨fun o => cell_of_row _ _ _ _ _ _ (za (HB0.out _).drew H.out.blk), fun o => cell_of_row _ _ _ _ _ _ (show (w.alloc _).heap[w.heap.size]? = _ from heap_alloc_new _ _)⟩ (fun hHeld => ?_)
 (refine tz 0 ?_)
 (refine tz 1 ?_)
 (refine tz 2 ?_)
 (refine tz 3 ?_)
 (refine tz 4 ?_)
 (refine tz 5 ?_)
 refine yx 6 rfl (fun K hK => ?_)
 go_simp
 obtain ⟨wa, hwa⟩ : ∃ wa, ((w.alloc (Obj.cells #[Value.int IntKind.i64 p.bank, Value.int IntKind.u16 p.addr] 47)).alloc (Obj.cells #[Value.int IntKind.i64 p.bank, Value.int IntKind.u16 p.addr] 47)).drew = wa := ⟨_, rfl⟩
 have hba : Bx [zo p, zo p] w wa := by rw [← hwa]; exact (Bx.two w (zo p) (zo p)).stay (Below.refl _ _).drew
 have HBA := zh hba
 rw [hwa]
 clear hwa hba
 refine hK.out _ _ (.inr ⟨fun o => cell_of_row _ _ _ _ _ _ (za HBA.out.bb H.out.blk), fun o => cell_of_row _ _ _ _ _ _ HBA.out.b0⟩) ?_
 clear hK K hHeld
 refine yx 7 rfl (fun K hK => ?_)
 refine xq (.tmp 16) (.tmp 18) 40 47 rfl 2 16 _ y7 Tryz.underlying40 rfl (by decide) (by decide) B (Nat.le_trans hB HBA.out.bb.size) vn f.nx.length (zp f.nx) rfl (H.out.below HBA.out.bb).on (by omega) (w.heap.size + 1) 1 _ _ _ rfl HBA.out.b1 rfl rfl (by decide) (by decide) ?_
 intro ga cp w1 ho1 hg1 hv1
 have hnx := H.out.next HBA.out.bb (v' := .slice (some ⟨ga, 0, none⟩) (f.nx.length + 1) cp) (ps := [p]) (by simpa [zp, yQ] using ho1) hg1 hv1
 have HNX := zh hnx
 have hbw : Below B w w1 := (HBA.out.bb.mono hB).grown hg1 (Nat.le_trans hB HBA.out.bb.size) (fun k hk => (H.out.on.lt k hk).1)
 have HBW := zh hbw
 have HPB := zh ((hg1.block w.heap.size (by have := HBA.out.z; simp at this; omega) (fun e => by have := (H.out.on.lt _ e.symm).2; omega)).trans HBA.out.b0)
 clear hnx ho1 hg1 hv1 hbw
 refine hK.out _ _ (.inr ⟨fun o => cell_of_row _ _ _ _ _ _ HNX.out.2, fun o => cell_of_row _ _ _ _ _ _ HPB.out⟩) ?_
 (refine pts ?_)
 refine z8 8 ?_
 simp only [List.drop_succ_cons, List.drop_zero]
 have hc9 : ∀ o, w1.cell? ⟨gf, o, none⟩ = (#[vn, vc, .map (some gi), vt] : Array Value)[o]? := fun o => cell_of_row _ _ _ _ _ _ HNX.out.2
 have hf9 : ∀ o, w1.frozen? ⟨gf, o, none⟩ = false := fun o => frozen_of_row _ _ _ _ _ HNX.out.2
 go_wp2
 go_end0
 exact ⟨rfl, ⟨l, _, vc, vt, HNX.out.1⟩, HBW.out.setCell (p := ⟨gf, 0, none⟩) H.out.bf _⟩
theorem to_any (B : Nat) (f : zO) (gf gi : Nat) (o : Option zb) (w : World) (l : List (Int × Value)) (vn vc vt : Value) (h : yK B f gf gi l vn vc vt w) (hB : B ≤ w.heap.size) (hlen : f.nx.length ≤ 1000) :
  Calls Tryz.prog 111 #[.pointer (some ⟨gf, 0, none⟩), .agg #[.int .i64 (optV o).1.bank, .int .u16 (optV o).1.addr], .bool (optV o).2] w (FlowP B (toF f o) gf gi w) := by
 cases o with
 | none => exact to_no B f gf gi ⟨0, 0⟩ w l vn vc vt h hB
 | some p => exact to_yes B f gf gi p w l vn vc vt h hB hlen
end Go.Proofs.YteofmaiojepdkaaGreat
namespace Go.Proofs.YteofmaiojepdkaaGreat
open Go Go.RowKit Go.Maps
theorem flow_table {f : zO} (e : Int) : e ∈ ({ f with xt := true } : zO).iss ↔ e = 41 ∨ e ∈ f.iss := by
 simp only [mem_iss]
 by_cases h : e = 41 <;> simp [h]
theorem seenP_bd {a : Int} {p q : zb} (a0 : 0 ≤ a) (a1 : a < 65536) (h : yt a p = some q) : 0 ≤ q.addr ∧ q.addr < 65536 := by
 unfold yt at h
 split at h
 ·split at h
  ·injection h with h; subst h; exact ⟨a0, a1⟩
  ·cases h
 ·injection h with h; subst h; exact ⟨a0, a1⟩
theorem wrap16 (a : Int) : IntKind.u16.wrap a = a % 65536 := by unfold IntKind.wrap; simp [IntKind.bits, IntKind.signed]
theorem byt_one (s t : ByteArray) (hs : s.size = 1) : byt (s ++ t) 1 = byt t 0 := by
 unfold byt
 congr 2
 have h1 : (s ++ t).data = s.data ++ t.data := by simp
 have h2 : s.data.toList.length = 1 := by simpa using hs
 rw [h1, Array.toList_append, List.getD_eq_getElem?_getD, List.getElem?_append_right (by omega), h2, List.getD_eq_getElem?_getD]
set_option maxRecDepth 100000 in
set_option maxHeartbeats 2000000 in
theorem entry_bank (I : zk) (ba : Option Addr) (bc : Nat) (da : Option Addr) (dc : Nat) (ra : Option Addr) (rn rc : Nat) (p : zb) (p0 : 0 ≤ p.addr) (p1 : p.addr < 65536) (a : Int) (a0 : 0 ≤ a) (a1 : a < 65536)
  (B : Nat) (f : zO) (gf gi : Nat) (w : World) (l : List (Int × Value)) (vn vc vt : Value) (h : yK B f gf gi l vn vc vt w) (hB : B ≤ w.heap.size)
  (hno : (optV (yt a p)).2 = false ∨ (optV (yt ((a + 1) % 65536) p)).2 = false) :
  Calls Tryz.prog 112 #[.pointer (some ⟨gf, 0, none⟩), .agg #[.slice ba I.banks.length bc, .int .u16 I.entry, .int .u16 I.vector, .slice da I.data.length dc, .slice ra rn rc], .int .u16 a, .agg #[.int .i64 p.bank, .int .u16 p.addr]] w (FlowP B { f with xb := true } gf gi w) := by
 have H := zh h
 have HH := zh (Bx.two w (z6 I ba bc da dc ra rn rc) (zo p))
 have HS1 := zh (fun W => sseen_any a a0 a1 p p0 p1 W)
 have HS2 := zh (fun W => sseen_any ((a + 1) % 65536) (by omega) (by omega) p p0 p1 W)
 generalize optV (yt a p) = q1 at *
 generalize optV (yt ((a + 1) % 65536) p) = q2 at *
 obtain ⟨q1, k1⟩ := q1
 obtain ⟨q2, k2⟩ := q2
 dsimp only at hno HS1 HS2
 have hw : IntKind.u16.wrap (a + 1) = (a + 1) % 65536 := wrap16 _
 have hc : (k1 = false) ∨ (k1 = true ∧ k2 = false) := by rcases hno with h1 | h1 <;> cases k1 <;> simp [h1]
 clear h hno
 rcases hc with rfl | ⟨rfl, rfl⟩
 all_goals
  go_enter Tryz.func112, Tryz.ntmps112
  go_wp2_with (first
   | (refine ldT 47 (HH.out.b1) ?_)
   | (refine ldT 47 ((HH.out.alloc _).b1) ?_)
   | (refine stN ?_)
   | (refine zZ errKey Tryz.underlying155 (HM.out _) rfl _ _ _ rfl rfl 42 rfl (.bool true) rfl ?_; intro w3 hm3 hg3 hz3)
   | (go_at_call 131; (with_reducible refine (HS1.out _).mono ?_); rintro e w1 ⟨rfl, hb1⟩; have HH := zh (HH.out.stay hb1); clear hb1)
   | (go_at_call 131; (with_reducible refine (HS2.out _).mono ?_); rintro e w2 ⟨rfl, hb2⟩; have HH := zh ((HH.out.alloc _).stay hb2); clear hb2
      have hb0 : ∀ x, Below w.heap.size w (w2.alloc x) := fun x => HH.out.bb.alloc HH.out.bb.size _
      have hcs : ∀ x o, (w2.alloc x).cell? ⟨gf, o, none⟩ = (#[vn, vc, .map (some gi), vt] : Array Value)[o]? := fun x o => cell_of_row _ _ _ _ _ _ (za (hb0 x) H.out.blk)
      have HM := zh (fun x => za (hb0 x) H.out.mp)
      have HB0 := zh hb0
      clear hb0))
  go_end0
  refine ⟨rfl, ⟨_, vn, vc, vt, (H.out.below (HB0.out _)).issue hm3 hg3 rfl rfl rfl flow_bank⟩, ?_⟩
  exact ((HB0.out _).mono hB).grown hg3 (Nat.le_trans hB (HB0.out _).size) (fun k e => by injection e with e; rw [← e]; exact H.out.bi)
theorem codeI_bd (I : zk) (p : zb) : (zK I p 1).size ≤ 1 := codeI_size I p 1
set_option maxRecDepth 100000 in
set_option maxHeartbeats 2000000 in
theorem entry_both (I : zk) (hI : I.Ok) (ba : Option Addr) (bc : Nat) (da : Option Addr) (dc : Nat) (ra : Option Addr) (rn rc : Nat) (p : zb) (p0 : 0 ≤ p.addr) (p1 : p.addr < 65536) (a : Int) (a0 : 0 ≤ a) (a1 : a < 65536)
  (B : Nat) (f : zO) (gf gi : Nat) (w : World) (l : List (Int × Value)) (vn vc vt : Value) (h : yK B f gf gi l vn vc vt w) (hB : B ≤ w.heap.size) (hV : yG w I ba bc da dc)
  (q1 q2 : zb) (hq1 : yt a p = some q1) (hq2 : yt ((a + 1) % 65536) p = some q2) (hln : f.nx.length ≤ 1000) (hlt : f.tb.length ≤ 1000) :
  Calls Tryz.prog 112 #[.pointer (some ⟨gf, 0, none⟩), .agg #[.slice ba I.banks.length bc, .int .u16 I.entry, .int .u16 I.vector, .slice da I.data.length dc, .slice ra rn rc], .int .u16 a, .agg #[.int .i64 p.bank, .int .u16 p.addr]] w (FlowP B (entF I p f a) gf gi w) := by
 have H := zh h
 have HV := zh hV
 have HH := zh (Bx.two w (z6 I ba bc da dc ra rn rc) (zo p))
 have HS1 := zh (fun W => sseen_any a a0 a1 p p0 p1 W)
 have HS2 := zh (fun W => sseen_any ((a + 1) % 65536) (by omega) (by omega) p p0 p1 W)
 have hd1 := seenP_bd a0 a1 hq1
 have hd2 := seenP_bd (by omega) (by omega) hq2
 have HC1 := zh (fun W (hw : yG W I ba bc da dc) => icode_any2 I hI ba bc da dc ra rn rc q1 hd1.1 hd1.2 1 (by omega) (by omega) W hw)
 have HC2 := zh (fun W (hw : yG W I ba bc da dc) => icode_any2 I hI ba bc da dc ra rn rc q2 hd2.1 hd2.2 1 (by omega) (by omega) W hw)
 rw [hq1] at HS1
 rw [hq2] at HS2
 dsimp only [optV] at HS1 HS2
 unfold entF
 rw [hq1, hq2]
 dsimp only
 have z1 := codeI_bd I q1
 have z2 := codeI_bd I q2
 generalize zK I q1 1 = s1 at *
 generalize zK I q2 1 = s2 at *
 have hw : IntKind.u16.wrap (a + 1) = (a + 1) % 65536 := wrap16 _
 generalize hF : (if s1.size = 0 ∨ s2.size = 0 then ({ f with xt := true } : zO) else _) = F
 have HF := zh hF
 clear h hV hq1 hq2 hd1 hd2 hF
 go_enter Tryz.func112, Tryz.ntmps112
 go_wp2_with (first
  | (refine ldT 47 (HH.out.b1) ?_)
  | (refine ldT 47 ((HH.out.alloc _).b1) ?_)
  | (refine stN ?_)
  | (go_at_call 131; (with_reducible refine (HS1.out _).mono ?_); rintro e w1 ⟨rfl, hb1⟩; have HH := zh (HH.out.stay hb1); have H8 := zh (Bx.one w1 (zo q1)); have HZ1 := zh HH.out.bb.size; clear hb1)
  | (go_at_call 131; (with_reducible refine (HS2.out _).mono ?_); rintro e w2 ⟨rfl, hb2⟩; have HH := zh ((HH.out.alloc _).stay hb2); have H8 := zh (H8.out.stay hb2); have H10 := zh (Bx.one w2 (zo q2)); have HZ2 := zh HH.out.bb.size; clear hb2))
 have HV2 := zh (HV.out.below (HH.out.alloc (zo q2)).bb)
 obtain ⟨wd, hwd⟩ : ∃ wd, (w2.alloc (zo q2)).drew = wd := ⟨_, rfl⟩
 have HH := zh ((HH.out.alloc (zo q2)).stay (hwd ▸ (Below.refl _ _).drew))
 have H8 := zh ((H8.out.alloc (zo q2)).stay (hwd ▸ (Below.refl _ _).drew))
 have H10 := zh (H10.out.stay (hwd ▸ (Below.refl _ _).drew))
 refine zr (S := fun W => (∀ o, W.cell? ⟨w.heap.size, o, none⟩ = (#[.slice ba I.banks.length bc, .int .u16 I.entry, .int .u16 I.vector, .slice da I.data.length dc, .slice ra rn rc] : Array Value)[o]?) ∧ (∀ o, W.cell? ⟨w1.heap.size, o, none⟩ = (#[.int .i64 q1.bank, .int .u16 q1.addr] : Array Value)[o]?) ∧ (∀ o, W.cell? ⟨w2.heap.size, o, none⟩ = (#[.int .i64 q2.bank, .int .u16 q2.addr] : Array Value)[o]?)) [7] (by kernel_rfl) (by
  rw [hwd]
  exact ⟨fun o => cell_of_row _ _ _ _ _ _ HH.out.b0, fun o => cell_of_row _ _ _ _ _ _ H8.out.b0, fun o => cell_of_row _ _ _ _ _ _ H10.out.b0⟩) (fun hHeld => ?_)
 rw [hwd] at hHeld ⊢
 clear hwd
 (refine tz 0 ?_)
 (refine tz 1 ?_)
 (refine tz 3 ?_)
 (refine tz 4 ?_)
 refine yx 2 rfl (fun K hK => ?_)
 go_simp
 with_reducible refine (HC1.out _ (HV.out.below HH.out.bb)).mono ?_
 rintro e w3 ⟨rfl, hb3⟩
 have HH := zh (HH.out.stay hb3)
 have H8 := zh (H8.out.stay hb3)
 have H10 := zh (H10.out.stay hb3)
 go_simp
 refine hK.out _ _ (.inr ⟨fun o => cell_of_row _ _ _ _ _ _ HH.out.b0, fun o => cell_of_row _ _ _ _ _ _ H8.out.b0, fun o => cell_of_row _ _ _ _ _ _ H10.out.b0⟩) ?_
 (refine pts ?_)
 clear hK K hHeld hb3
 refine yx 5 rfl (fun K hK => ?_)
 go_simp
 with_reducible refine (HC2.out _ (HV.out.below HH.out.bb)).mono ?_
 rintro e w4 ⟨rfl, hb4⟩
 have HH := zh (HH.out.stay hb4)
 have H8 := zh (H8.out.stay hb4)
 have H10 := zh (H10.out.stay hb4)
 go_simp
 refine hK.out _ _ (.inr ⟨fun o => cell_of_row _ _ _ _ _ _ HH.out.b0, fun o => cell_of_row _ _ _ _ _ _ H8.out.b0, fun o => cell_of_row _ _ _ _ _ _ H10.out.b0⟩) ?_
 (refine pts ?_)
 clear hK K hb4
 (refine tkZ 6 (v := ?_) rfl ⟨fun o => cell_of_row _ _ _ _ _ _ HH.out.b0, fun o => cell_of_row _ _ _ _ _ _ H8.out.b0, fun o => cell_of_row _ _ _ _ _ _ H10.out.b0⟩ ?_ ?_; rotate_left; (focus (intro w hSw; clear hSw; go_simp; first | (rw [if_neg (by omega)]; done) | (rw [if_neg (by simp; omega)]; done))); (refine pts ?_))
 refine z8 7 ?_
 simp only [List.drop_succ_cons, List.drop_zero]
 by_cases hm : s1.size = 0 ∨ s2.size = 0
 ·have hF := HF.out
  rw [if_pos hm] at hF
  subst hF
  have hs0 : s1.size + s2.size < 2 := by omega
  have hs1 : (s1 ++ s2).size < 2 := by rw [ByteArray.size_append]; exact hs0
  clear hm
  have hcs : ∀ o, w4.cell? ⟨gf, o, none⟩ = (#[vn, vc, .map (some gi), vt] : Array Value)[o]? := fun o => cell_of_row _ _ _ _ _ _ (za HH.out.bb H.out.blk)
  have HM := zh (za HH.out.bb H.out.mp)
  go_wp2_with (refine zZ errKey Tryz.underlying155 HM.out rfl _ _ _ rfl rfl 41 rfl (.bool true) rfl ?_; intro w5 hm5 hg5 hz5)
  go_end0
  refine ⟨rfl, ⟨_, vn, vc, vt, (H.out.below HH.out.bb).issue hm5 hg5 rfl rfl rfl flow_table⟩, ?_⟩
  exact (HH.out.bb.mono hB).grown hg5 (Nat.le_trans hB HH.out.bb.size) (fun k e => by injection e with e; rw [← e]; exact H.out.bi)
 ·have hF := HF.out
  rw [if_neg hm] at hF
  subst hF
  have hs0 : ¬ s1.size + s2.size < 2 := by omega
  have hs1 : ¬ (s1 ++ s2).size < 2 := by rw [ByteArray.size_append]; exact hs0
  have n1 : s1.size = 1 := by omega
  have n2 : s2.size = 1 := by omega
  clear hm HF
  go_wp2_with fail
  refine zr (S := fun W => (∀ o, W.cell? ⟨gf, o, none⟩ = (#[vn, vc, .map (some gi), vt] : Array Value)[o]?) ∧ (∀ o, W.cell? ⟨w1.heap.size, o, none⟩ = (#[.int .i64 q1.bank, .int .u16 q1.addr] : Array Value)[o]?) ∧ (∀ o, W.cell? ⟨w2.heap.size, o, none⟩ = (#[.int .i64 q2.bank, .int .u16 q2.addr] : Array Value)[o]?)) [9, 10, 11] (by kernel_rfl) ⟨fun o => cell_of_row _ _ _ _ _ _ (za (HH.out.bb.trans (Below.refl _ _).drew) H.out.blk), fun o => cell_of_row _ _ _ _ _ _ (H8.out.stay (Below.refl _ _).drew).b0, fun o => cell_of_row _ _ _ _ _ _ (H10.out.stay (Below.refl _ _).drew).b0⟩ (fun hHeld => ?_)
  (refine tz 0 ?_)
  (refine tz 1 ?_)
  (refine tz 2 ?_)
  (refine tz 3 ?_)
  (refine tz 4 ?_)
  (refine tz 5 ?_)
  (refine tz 6 ?_)
  refine yx 7 rfl (fun K hK => ?_)
  go_simp
  obtain ⟨we, hwe⟩ : ∃ we, (w4.alloc (.cells #[.int .i64 q1.bank, .int .u16 q1.addr, .int .i64 q2.bank, .int .u16 q2.addr] 47)).drew = we := ⟨_, rfl⟩
  have HN := zh (hwe ▸ (Bx.one w4 (.cells #[.int .i64 q1.bank, .int .u16 q1.addr, .int .i64 q2.bank, .int .u16 q2.addr] 47)).stay (Below.refl _ _).drew)
  have HH := zh (HH.out.stay HN.out.bb)
  have H8 := zh (H8.out.stay HN.out.bb)
  have H10 := zh (H10.out.stay HN.out.bb)
  rw [hwe]
  refine hK.out _ _ (.inr ⟨fun o => cell_of_row _ _ _ _ _ _ (za HH.out.bb H.out.blk), fun o => cell_of_row _ _ _ _ _ _ H8.out.b0, fun o => cell_of_row _ _ _ _ _ _ H10.out.b0⟩) ?_
  (refine pts ?_)
  clear hK K hHeld hwe
  refine yx 8 rfl (fun K hK => ?_)
  refine xq (.tmp 54) (.tmp 57) 40 47 rfl 2 16 _ y7 Tryz.underlying40 rfl (by decide) (by decide) B (Nat.le_trans hB HH.out.bb.size) vt f.tb.length (zp f.tb) rfl (H.out.below HH.out.bb).ot (by omega) w4.heap.size 2 _ _ _ rfl HN.out.b0 rfl rfl (by decide) (by decide) ?_
  intro ga cp w5 ho5 hg5 hv5
  have ht := H.out.table HH.out.bb (v' := .slice (some ⟨ga, 0, none⟩) (f.tb.length + 2) cp) (ps := [q1, q2]) (by simpa [zp, yQ] using ho5) hg5 hv5
  have HT := zh ht
  have HBW := zh ((HH.out.bb.mono hB).grown hg5 (Nat.le_trans hB HH.out.bb.size) (fun k hk => (H.out.ot.lt k hk).1))
  have h0t : ∀ k, vt.ownBlock = some k → k < w.heap.size := fun k hk => (H.out.ot.lt k hk).2
  have hz1 := HH.out.z
  have hz2 := H8.out.z
  have hz3 := H10.out.z
  have hz4 := HZ1.out
  have hz5 := HZ2.out
  have H05 := zh ((hg5.block (w.heap.size + 1) (by simp at hz1; omega) (fun e => by have := h0t _ e.symm; omega)).trans HH.out.b1)
  have H85 := zh ((hg5.block w1.heap.size (by simp at hz2; omega) (fun e => by have := h0t _ e.symm; omega)).trans H8.out.b0)
  have H95 := zh ((hg5.block w2.heap.size (by simp at hz3; omega) (fun e => by have := h0t _ e.symm; omega)).trans H10.out.b0)
  clear hz1 hz2 hz3 hz4 hz5 h0t ht ho5 hg5 hv5
  refine hK.out _ _ (.inr ⟨fun o => cell_of_row _ _ _ _ _ _ HT.out.2, fun o => cell_of_row _ _ _ _ _ _ H85.out, fun o => cell_of_row _ _ _ _ _ _ H95.out⟩) ?_
  (refine pts ?_)
  clear hK K
  refine z8 9 ?_
  simp only [List.drop_succ_cons, List.drop_zero]
  have hc9 : ∀ o, w5.cell? ⟨gf, o, none⟩ = (#[vn, vc, .map (some gi), vt] : Array Value)[o]? := fun o => cell_of_row _ _ _ _ _ _ HT.out.2
  have hf9 : ∀ o, w5.frozen? ⟨gf, o, none⟩ = false := fun o => frozen_of_row _ _ _ _ _ HT.out.2
  go_wp2_with fail
  clear hc9 hf9
  obtain ⟨w6, hw6⟩ : ∃ w6, w5.setCell ⟨gf, 3, none⟩ (.slice (some ⟨ga, 0, none⟩) (f.tb.length + 2) cp) = w6 := ⟨_, rfl⟩
  have H6 : yK B { f with tb := f.tb ++ [q1, q2] } gf gi l vn vc (.slice (some ⟨ga, 0, none⟩) (f.tb.length + 2) cp) w6 := by rw [← hw6]; exact HT.out.1
  have H6 := zh H6
  have HB6 : Below B w w6 := by rw [← hw6]; exact HBW.out.setCell (p := ⟨gf, 3, none⟩) H.out.bf _
  have HB6 := zh HB6
  have H06 : w6.heap[w.heap.size + 1]? = some (zo p) := by
   rw [← hw6, heap_setCell_other (show w.heap.size + 1 ≠ gf from fun e => by have := (Array.getElem?_eq_some_iff.1 H.out.blk).1; omega)]
   exact H05.out
  have H06 := zh H06
  rw [hw6]
  clear hw6
  have b1 := zL s1 0
  have b2 := zL s2 0
  have hx0 : byt (s1 ++ s2) 0 = byt s1 0 := byt_append _ _ _ (by omega)
  have hx1 : byt (s1 ++ s2) 1 = byt s2 0 := byt_one _ _ n1
  have i0 : 0 < (s1 ++ s2).size := by omega
  have i1 : 1 < (s1 ++ s2).size := by omega
  have ix0 : ∀ W, (Instr.index 9 (.string (s1 ++ s2)) (.int .i64 0)).run Tryz.prog W = .ok (.int .u8 (byt s1 0)) W := fun W => by rw [← hx0]; exact zl (s1 ++ s2) 0 i0 W
  have ix1 : ∀ W, (Instr.index 9 (.string (s1 ++ s2)) (.int .i64 1)).run Tryz.prog W = .ok (.int .u8 (byt s2 0)) W := fun W => by rw [← hx1]; exact zl (s1 ++ s2) 1 i1 W
  clear hx0 hx1 i0 i1
  generalize byt s1 0 = c1 at *
  generalize byt s2 0 = c2 at *
  obtain ⟨b1, b1'⟩ := b1
  obtain ⟨b2, b2'⟩ := b2
  have e1 : IntKind.u16.wrap c1 = c1 := by rw [wrap16]; omega
  have e2 : IntKind.u16.wrap c2 = c2 := by rw [wrap16]; omega
  have e3 : IntKind.u16.wrap (c2 * 256) = c2 * 256 := by rw [wrap16]; omega
  have e4 := u16_word c1 c2 b1 b1' b2 b2'
  have HS3 := zh (fun W => sseen_any (c1 + 256 * c2) (by omega) (by omega) p p0 p1 W)
  generalize yt (c1 + 256 * c2) p = q3 at *
  refine zr (S := fun W => (∀ o, W.cell? ⟨w.heap.size + 1, o, none⟩ = (#[.int .i64 p.bank, .int .u16 p.addr] : Array Value)[o]?)) [13] (by kernel_rfl) (fun o => cell_of_row _ _ _ _ _ _ (za (Below.refl _ _).drew H06.out)) (fun hHeld => ?_)
  (refine tz 0 ?_)
  (refine tz 1 ?_)
  (refine tz 2 ?_)
  (refine tz 3 ?_)
  (refine tz 4 ?_)
  (refine tz 5 ?_)
  (refine tz 6 ?_)
  (refine tz 7 ?_)
  (refine tz 8 ?_)
  (refine tz 9 ?_)
  refine yx 10 rfl (fun K hK => ?_)
  go_simp
  with_reducible refine (HS3.out _).mono ?_
  rintro e w7 ⟨rfl, hb7⟩
  have HB7 := zh ((Below.refl _ w6).drew.trans (hb7.mono (zn _)))
  clear hb7
  go_simp
  refine hK.out _ _ (.inr fun o => cell_of_row _ _ _ _ _ _ (za HB7.out H06.out)) ?_
  (refine pts ?_)
  clear hK K hHeld
  (refine tkZ 11 (v := ?_) rfl (fun o => cell_of_row _ _ _ _ _ _ (za HB7.out H06.out)) ?_ ?_; rotate_left; (focus (intro w hSw; clear hSw; go_simp; try with_reducible rfl)); (refine pts ?_))
  (refine tkZ 12 (v := ?_) rfl (fun o => cell_of_row _ _ _ _ _ _ (za HB7.out H06.out)) ?_ ?_; rotate_left; (focus (intro w hSw; clear hSw; go_simp; try with_reducible rfl)); (refine pts ?_))
  refine z8 13 ?_
  simp only [List.drop_succ_cons, List.drop_zero]
  have HTO := zh (to_any B { f with tb := f.tb ++ [q1, q2] } gf gi q3 w7 l vn vc _ (H6.out.below HB7.out) (Nat.le_trans hB (Nat.le_trans HB6.out.size HB7.out.size)) hln)
  go_wp2_with (go_at_call 111; (with_reducible refine HTO.out.mono ?_); rintro e w8 ⟨rfl, hx8, hb8⟩; have HX := zh hx8; have HB8 := zh hb8; clear hx8 hb8)
  go_end0
  exact ⟨rfl, HX.out, HB6.out.trans ((HB7.out.mono (Nat.le_trans hB HB6.out.size)).trans HB8.out)⟩
theorem entry_any (I : zk) (hI : I.Ok) (ba : Option Addr) (bc : Nat) (da : Option Addr) (dc : Nat) (ra : Option Addr) (rn rc : Nat) (p : zb) (p0 : 0 ≤ p.addr) (p1 : p.addr < 65536) (a : Int) (a0 : 0 ≤ a) (a1 : a < 65536)
  (B : Nat) (f : zO) (gf gi : Nat) (w : World) (l : List (Int × Value)) (vn vc vt : Value) (h : yK B f gf gi l vn vc vt w) (hB : B ≤ w.heap.size) (hV : yG w I ba bc da dc) (hln : f.nx.length ≤ 1000) (hlt : f.tb.length ≤ 1000) :
  Calls Tryz.prog 112 #[.pointer (some ⟨gf, 0, none⟩), .agg #[.slice ba I.banks.length bc, .int .u16 I.entry, .int .u16 I.vector, .slice da I.data.length dc, .slice ra rn rc], .int .u16 a, .agg #[.int .i64 p.bank, .int .u16 p.addr]] w (FlowP B (entF I p f a) gf gi w) := by
 cases h1 : yt a p with
 | none =>
  have := entry_bank I ba bc da dc ra rn rc p p0 p1 a a0 a1 B f gf gi w l vn vc vt h hB (.inl (by rw [h1]; rfl))
  unfold entF
  rwa [h1]
 | some q1 =>
  cases h2 : yt ((a + 1) % 65536) p with
  | none =>
   have := entry_bank I ba bc da dc ra rn rc p p0 p1 a a0 a1 B f gf gi w l vn vc vt h hB (.inr (by rw [h2]; rfl))
   unfold entF
   rwa [h1, h2]
  | some q2 => exact entry_both I hI ba bc da dc ra rn rc p p0 p1 a a0 a1 B f gf gi w l vn vc vt h hB hV q1 q2 h1 h2 hln hlt
end Go.Proofs.YteofmaiojepdkaaGreat
