/- Chapter 05 in plain Lean: the routine that a work list has found; the work list of all routines. No condition beyond what each states. -/
import Derived.Test.YteofmaiojepdkaaGreatTbSkJ
set_option linter.all false
namespace Go.Proofs.YteofmaiojepdkaaGreat
open Go Go.RowKit Go.Maps Go.Sort
theorem infoIss : (Tryz.prog.info? 58).map (fun i => (i.zero, i.size, i.bytes)) = some (some (.agg #[.int .i64 0, .int .i64 0, .int .u16 0]), 3, 24) := by kernel_rfl
theorem infoItm : (Tryz.prog.info? 55).map (fun i => (i.zero, i.size, i.bytes)) = some (some (.agg #[.int .i64 0, .int .u16 0, .int .i64 0, .int .i64 0, .int .i64 0, .int .u16 0, .int .u16 0, .int .i64 0, .int .i64 0]), 9, 64) := by kernel_rfl
@[go_sem] theorem itm_build (b a : Int) (o d s i u k z : Int) (W : World) : (Instr.build 55 #[(0, .agg #[.int .i64 b, .int .u16 a]), (1, .agg #[.int .i64 o, .int .i64 d, .int .i64 s, .int .u16 i, .int .u16 u, .int .i64 k, .int .i64 z])]).run Tryz.prog W = .ok (.agg #[.int .i64 b, .int .u16 a, .int .i64 o, .int .i64 d, .int .i64 s, .int .u16 i, .int .u16 u, .int .i64 k, .int .i64 z]) W := run_build W _ _ _ (by kernel_rfl)
@[go_sem] theorem iss_build (k b a : Int) (W : World) : (Instr.build 58 #[(0, .int .i64 k), (1, .agg #[.int .i64 b, .int .u16 a])]).run Tryz.prog W = .ok (.agg #[.int .i64 k, .int .i64 b, .int .u16 a]) W := run_build W _ _ _ (by kernel_rfl)
section
variable {I : zk} {e : zb} {A : VsA} {w0 : World} {D cd Q C : List zb} {iss : List zM} {vcd vis vq : Value}
def xU (C cl : List zb) : List zb := cl.foldl (fun C p => if p ∈ C then C else C ++ [p]) C
theorem plOk_of {p : zb} (p0 : 0 ≤ p.addr) (p1 : p.addr < 65536) (hb : ja p.bank) : yO p := by unfold yO; exact ⟨hb, p0, p1⟩
theorem ok_size {I : zk} {p : zb} (h : okI I p) : 0 ≤ (atI I p).1.size ∧ (atI I p).1.size ≤ 100 := by
 have h1 := ins_bd h
 have h2 := (valid_small _ h1.1 h1.2.1).2.2.2.2.2
 have h3 := rsizeS_bd (atI I p).1.op
 omega
theorem VsW.other {I : zk} {e : zb} {A : VsA} {w0 W W' : World} {D cd Q C : List zb} {iss : List zM} {vcd vis vq : Value} (h : VsW I e A w0 D cd Q C iss vcd vis vq W) {c : Nat} {o : Obj} (t : zg (fun k => k = c) W W') (hc : W.heap[c]? = some o) (ho : ∀ cs T fr, o ≠ .cells cs T fr) (n1 : A.gd ≠ c) (n2 : A.gc ≠ c) (n3 : A.gk ≠ c) (n4 : w0.heap.size ≤ c) : VsW I e A w0 D cd Q C iss vcd vis vq W' := by
 have hx : ∀ {b : Nat} {cs : Array Value} {T : TypeId} {fr : Nat × Nat}, W.heap[b]? = some (.cells cs T fr) → W'.heap[b]? = some (.cells cs T fr) := fun hb => t.heap hb (fun e => by rw [e, hc] at hb; injection hb with hb; exact ho _ _ _ hb)
 exact ⟨kn_keep h.kn t n3, h.tr.trans t (fun x hx e => by omega), hx h.hbd, t.heap h.hd n1, h.nd, hx h.hbs, hx h.hbr, hx h.hbq, hx h.hbc, t.heap h.hc n2, h.nc,
  zi h.oc t (ye h.oc hc (fun cs fr => ho cs _ fr)), zi h.oi t (ye h.oi hc (fun cs fr => ho cs _ fr)), h.oq.turn t (ownQ_ne h.oq hc (fun cs fr => ho cs _ fr)), h.lbd, h.lbs, h.lbr, h.lbq, h.lbc, h.lgd, h.lgc, h.ngg, h.nbb, h.lgk⟩
theorem iss_len3 (f : zO) : f.iss.length ≤ 3 := by
 unfold zO.iss
 cases f.xt <;> cases f.xb <;> cases f.xe <;> simp
theorem yK.keys {B : Nat} {f : zO} {gf gi : Nat} {l : List (Int × Value)} {vn vc vt : Value} {w : World} (h : yK B f gf gi l vn vc vt w) (e : Int) : e ∈ f.iss ↔ e ∈ l.map (·.1) := by
 have h1 := h.iss e
 constructor
 ·intro he
  rw [if_pos he] at h1
  exact Classical.byContradiction fun hn => by rw [getL_none.2 hn] at h1; cases h1
 ·intro he
  exact Classical.byContradiction fun hn => by rw [if_neg hn] at h1; exact getL_none.1 h1 he
theorem yK.len {B : Nat} {f : zO} {gf gi : Nat} {l : List (Int × Value)} {vn vc vt : Value} {w : World} (h : yK B f gf gi l vn vc vt w) : l.length ≤ 3 := by
 have h1 := yw h.nd (fun x hx => (h.keys x).2 hx)
 have h2 := iss_len3 f
 rw [List.length_map] at h1
 omega
def SeenM (p : zb) (lf : List (Int × Value)) (seen : List Nat) (m : List zM) : Prop := (seen.Nodup ∧ ∀ j ∈ seen, j < lf.length) ∧ m.Nodup ∧ m.length = seen.length ∧ ∀ x : zM, x ∈ m ↔ x.at_ = p ∧ ∃ j ∈ seen, lf[j]?.map (·.1) = some x.kind
theorem SeenM.snoc {p : zb} {lf : List (Int × Value)} {seen : List Nat} {m : List zM} (h : SeenM p lf seen m) (hnd : (lf.map (·.1)).Nodup) {j : Nat} {q : Int × Value} (hl : lf[j]? = some q) (hn : j ∉ seen) : SeenM p lf (seen ++ [j]) (m ++ [⟨q.1, p⟩]) := by
 obtain ⟨⟨h1, h2⟩, h3, h4, h5⟩ := h
 have hj := (List.getElem?_eq_some_iff.1 hl).1
 refine ⟨⟨List.nodup_append.2 ⟨h1, by simp, fun a ha b hb e => hn (by rw [List.mem_singleton.1 hb] at e; rw [← e]; exact ha)⟩, fun k hk => ?_⟩, List.nodup_append.2 ⟨h3, by simp, fun a ha b hb e => ?_⟩, by simp [h4], fun x => ?_⟩
 ·rcases List.mem_append.1 hk with h | h
  ·exact h2 k h
  ·rw [List.mem_singleton.1 h]; exact hj
 ·rw [List.mem_singleton.1 hb] at e
  subst e
  obtain ⟨-, k, hk, hkk⟩ := (h5 _).1 ha
  have h6 : (lf.map (·.1))[k]? = (lf.map (·.1))[j]? := by rw [List.getElem?_map, List.getElem?_map, hkk, hl]; rfl
  have h7 : k < (lf.map (·.1)).length := by rw [List.length_map]; exact h2 k hk
  exact hn (((List.getElem?_inj h7 hnd).1 h6) ▸ hk)
 ·rw [List.mem_append, h5, List.mem_singleton]
  constructor
  ·rintro (⟨h, k, hk, hkk⟩ | rfl)
   ·exact ⟨h, k, by simp [hk], hkk⟩
   ·exact ⟨rfl, j, by simp, by rw [hl]; rfl⟩
  ·rintro ⟨h, k, hk, hkk⟩
   rcases List.mem_append.1 hk with hk | hk
   ·exact .inl ⟨h, k, hk, hkk⟩
   ·rw [List.mem_singleton.1 hk, hl] at hkk
    simp only [Option.map_some, Option.some.injEq] at hkk
    exact .inr (zM.ext' hkk.symm h)
theorem zt {w : World} {B s n : Nat} {T : TypeId} {v : Value} {xs : List Value} (h : w.ownsRow B T s v n xs) : ∃ A cap, v = .slice A n cap ∧ (A = none → cap = 0) ∧ SrcW w s A n xs := by
 rcases h.2 with ⟨rfl, rfl⟩ | ⟨g, cap, cur, rfl, -⟩
 ·exact ⟨none, 0, rfl, fun _ => rfl, own_src h⟩
 ·exact ⟨_, cap, rfl, (fun e => by cases e), own_src h⟩
theorem plcsL_one (l : List zb) : ∀ u ∈ zp l, u.oneCell' = true := fun u hu => by
 unfold zp at hu
 obtain ⟨q, -, hq⟩ := List.mem_flatMap.1 hu
 simp [yQ] at hq
 rcases hq with rfl | rfl <;> rfl
theorem yK.turn {B : Nat} {f : zO} {gf gi : Nat} {l : List (Int × Value)} {vn vc vt : Value} {w w' : World} {bs : Nat → Prop} (h : yK B f gf gi l vn vc vt w) (t : zg bs w w') (hb : ∀ k, bs k → k < B) : yK B f gf gi l vn vc vt w' :=
 ⟨t.heap h.blk (fun e => by have := hb _ e; have := h.bf; omega), t.heap h.mp (fun e => by have := hb _ e; have := h.bi; omega), h.iss, h.nd,
  zi h.on t (fun k hk e => by have := hb _ e; have := (h.on.lt k hk).1; omega), zi h.oc t (fun k hk e => by have := hb _ e; have := (h.oc.lt k hk).1; omega), zi h.ot t (fun k hk e => by have := hb _ e; have := (h.ot.lt k hk).1; omega), h.d1, h.d2, h.bf, h.bi⟩
def VsP (I : zk) (e : zb) (A : VsA) (w0 : World) (D cd Q C : List zb) (P : List zM → Prop) (w : World) (en : Ending) (w' : World) : Prop := en = .returned (.tuple #[]) ∧ ∃ iss vcd vis vq, P iss ∧ VsW I e A w0 D cd Q C iss vcd vis vq w'
set_option maxRecDepth 100000 in
set_option maxHeartbeats 4000000 in
theorem visit_no (hI : I.Ok) (ba : Option Addr) (bc : Nat) (da : Option Addr) (dc : Nat) (ra : Option Addr) (rn rc : Nat) (hS : ScnW I ba bc da dc ra rn rc A.gs A.gk w0) (p : zb) (p0 : 0 ≤ p.addr) (p1 : p.addr < 65536) (hp : p ∉ D) (hno : ¬ okI I p) (hlen : iss.length ≤ 100000000)
  (w : World) (h : VsW I e A w0 D cd Q C iss vcd vis vq w) :
  Calls Tryz.prog 95 #[.agg #[.int .i64 p.bank, .int .u16 p.addr], .pointer (some ⟨A.bd, 0, none⟩), .pointer (some ⟨A.bs, 0, none⟩), .pointer (some ⟨A.br, 0, none⟩), .pointer (some ⟨A.bq, 0, none⟩), .pointer (some ⟨A.bc, 0, none⟩)] w
   (VsP I e A w0 (D ++ [p]) cd Q C (fun l => l = iss ++ [⟨(atI I p).2, p⟩]) w) := by
 have H := zh h
 have HS := zh hS
 have HB := zh (Bx.one w (zo p))
 have H0 := zh (h.below (Bx.one w (zo p)).bb)
 have HDC := zh (fun W hh => at_any I hI ba bc da dc ra rn rc A.gs A.gk p p0 p1 W hh)
 have hc1 := fun o => cell_of_row _ A.bd o _ _ _ H0.out.hbd
 have HM := zh H0.out.hd
 have e1 : ((atI I p).2 != 0) = true := by unfold okI at hno; simpa using hno
 have HLK := zh (show A.gk < w.heap.size from Nat.lt_of_lt_of_le h.lgk h.tr.size)
 obtain ⟨i0, hi, hz0, hz1, hz2⟩ := info_parts infoIss
 unfold AtP at HDC
 generalize ha : atI I p = a at *
 clear h hS ha
 go_enter Tryz.func95, Tryz.ntmps95
 go_upto_region 2 with (first
  | (refine ldT 47 (HB.out.b0) ?_)
  | (refine zZ xj Tryz.underlying141 HM.out rfl _ _ _ rfl rfl p rfl (.bool true) rfl ?_; intro w1 hm1 hg1 hz1))
 have HP1 := zh ((hg1.block w.heap.size (Array.getElem?_eq_some_iff.1 HB.out.b0).1 (fun e => by injection e with e; have h1 := H0.out.hd; rw [← e, HB.out.b0] at h1; cases h1)).trans HB.out.b0)
 have H1 := zh (H0.out.done hp hm1 hg1)
 clear hm1 hg1 hz1 HM hc1 H0
 have hc2 := fun o => cell_of_row w1 A.bs o _ _ _ H1.out.hbs
 have HAT := zh (HDC.out w1 (HS.out.turn H1.out.tr H1.out.kn))
 go_upto_region 3 with (first
  | (refine ldT 47 (HP1.out) ?_)
  | (refine stN ?_)
  | (go_at_call 93; (with_reducible refine HAT.out.mono ?_); rintro e2 w2 ⟨rfl, hk2, ht2⟩; have HK2 := zh hk2; have HT2 := zh ht2; clear hk2 ht2))
 clear hc2
 have HP2 := zh (HT2.out.heap HP1.out (fun e => by have := HLK.out; omega))
 have hn3 : Below w2.heap.size w2 (w2.alloc (fndB a)) := (Below.refl _ _).alloc (zn _) _
 have H3 := zh ((H1.out.learn HT2.out HK2.out).below hn3)
 have HP3 := zh (za hn3 HP2.out)
 have hF : (w2.alloc (fndB a)).heap[w2.heap.size]? = some (fndB a) := heap_alloc_new _ _
 obtain ⟨w3, hw3⟩ : ∃ w3, w2.alloc (fndB a) = w3 := ⟨_, rfl⟩
 rw [hw3] at H3 HP3 hF ⊢
 have HF3 := zh hF
 clear hn3 hF hw3 H1 HP1 HP2 HAT HDC
 have hc3 := fun o => cell_of_row w3 w2.heap.size o _ _ _ HF3.out
 have hc4 := fun o => cell_of_row w3 A.br o _ _ _ H3.out.hbr
 have hn4 : Below w3.heap.size w3 (w3.alloc (y8 ⟨a.2, p⟩)) := (Below.refl _ _).alloc (zn _) _
 have H4 := zh (H3.out.below hn4)
 have HS4 := zh (Nat.le_trans H3.out.tr.size hn4.size)
 clear hn4
 go_wp2_with (first
  | (refine ldT 47 (HP3.out) ?_)
  | (refine zJ (.tmp 21) (.tmp 26) 36 58 rfl 3 24 _ infoIss Tryz.underlying36 rfl (by decide) (by decide) w0.heap.size HS4.out vis iss.length (yf iss) rfl H4.out.oi (Nat.le_trans hlen (by decide)) w3.heap.size 1 _ _ _ rfl (heap_alloc_new w3 (y8 ⟨a.2, p⟩)) rfl rfl (by decide) (by decide) rfl ?_
     intro ga cp w5 ho5 hg5 hv5
     have h5 := H4.out.issue (x := ⟨a.2, p⟩) (v' := .slice (some ⟨ga, 0, none⟩) (iss.length + 1) cp) ho5 hg5
     have H5 := zh h5
     have hc5 := fun o => cell_of_row w5 A.br o _ _ _ H5.out.2
     have hf5 := fun o => frozen_of_row w5 A.br o _ _ H5.out.2
     clear h5 ho5 hg5 hv5))
 go_end0
 exact ⟨rfl, _, _, _, _, rfl, H5.out.1⟩
set_option maxRecDepth 100000 in
set_option maxHeartbeats 4000000 in
theorem visit_yes (hI : I.Ok) (ba : Option Addr) (bc : Nat) (da : Option Addr) (dc : Nat) (ra : Option Addr) (rn rc : Nat) (hS : ScnW I ba bc da dc ra rn rc A.gs A.gk w0) (p : zb) (p0 : 0 ≤ p.addr) (p1 : p.addr < 65536) (hp : p ∉ D) (hok : okI I p) (hlen : iss.length ≤ 100000000) (hlc : cd.length ≤ 100000000) (hlq : Q.length ≤ 50000000000) (hpb : ja p.bank)
  (w : World) (h : VsW I e A w0 D cd Q C iss vcd vis vq w) :
  Calls Tryz.prog 95 #[.agg #[.int .i64 p.bank, .int .u16 p.addr], .pointer (some ⟨A.bd, 0, none⟩), .pointer (some ⟨A.bs, 0, none⟩), .pointer (some ⟨A.br, 0, none⟩), .pointer (some ⟨A.bq, 0, none⟩), .pointer (some ⟨A.bc, 0, none⟩)] w
   (VsP I e A w0 (D ++ [p]) (cd ++ [p]) (Q ++ (fl I p).nx) (xU C (fl I p).cl) (fun l => ∃ m, l = iss ++ m ∧ m.Nodup ∧ ∀ x : zM, x ∈ m ↔ x.at_ = p ∧ x.kind ∈ (fl I p).iss) w) := by
 have H := zh h
 have HS := zh hS
 have HB := zh (Bx.one w (zo p))
 have H0 := zh (h.below (Bx.one w (zo p)).bb)
 have HDC := zh (fun W hh => at_any I hI ba bc da dc ra rn rc A.gs A.gk p p0 p1 W hh)
 have hc1 := fun o => cell_of_row _ A.bd o _ _ _ H0.out.hbd
 have HM := zh H0.out.hd
 have e1 : ((atI I p).2 != 0) = false := by unfold okI at hok; simpa using hok
 have hib := ins_bd hok
 have HFO := zh (fun W hv => follow_any I hI ba bc da dc ra rn rc (atI I p).1 hib.1 hib.2.2 (ok_size hok) p p0 p1 W hv)
 have HFB := zh (fl_bd (plOk_of p0 p1 hpb) hok)
 have hfl : yU I (atI I p).1 p = fl I p := rfl
 rw [hfl] at HFO
 have HLK := zh (show A.gk < w.heap.size from Nat.lt_of_lt_of_le h.lgk h.tr.size)
 obtain ⟨i0, hi, hz0, hz1, hz2⟩ := info_parts infoIss
 unfold AtP at HDC
 generalize fl I p = F at *
 generalize ha : atI I p = a at *
 have hit : itmL I p = [.int .i64 p.bank, .int .u16 p.addr, .int .i64 a.1.op, .int .i64 a.1.d, .int .i64 a.1.s, .int .u16 a.1.imm, .int .u16 a.1.aux, .int .i64 a.1.bank, .int .i64 a.1.size] := by unfold itmL; rw [ha]
 have HIT := zh hit
 clear h hS ha hib hfl hit
 go_enter Tryz.func95, Tryz.ntmps95
 go_upto_region 2 with (first
  | (refine ldT 47 (HB.out.b0) ?_)
  | (refine zZ xj Tryz.underlying141 HM.out rfl _ _ _ rfl rfl p rfl (.bool true) rfl ?_; intro w1 hm1 hg1 hz1))
 have HP1 := zh ((hg1.block w.heap.size (Array.getElem?_eq_some_iff.1 HB.out.b0).1 (fun e => by injection e with e; have h1 := H0.out.hd; rw [← e, HB.out.b0] at h1; cases h1)).trans HB.out.b0)
 have H1 := zh (H0.out.done hp hm1 hg1)
 clear hm1 hg1 hz1 HM hc1 H0
 have hc2 := fun o => cell_of_row w1 A.bs o _ _ _ H1.out.hbs
 have HAT := zh (HDC.out w1 (HS.out.turn H1.out.tr H1.out.kn))
 go_upto_region 3 with (first
  | (refine ldT 47 (HP1.out) ?_)
  | (refine stN ?_)
  | (go_at_call 93; (with_reducible refine HAT.out.mono ?_); rintro e2 w2 ⟨rfl, hk2, ht2⟩; have HK2 := zh hk2; have HT2 := zh ht2; clear hk2 ht2))
 clear hc2
 have HP2 := zh (HT2.out.heap HP1.out (fun e => by have := HLK.out; omega))
 have hn3 : Below w2.heap.size w2 (w2.alloc (fndB a)) := (Below.refl _ _).alloc (zn _) _
 have H3 := zh ((H1.out.learn HT2.out HK2.out).below hn3)
 have HP3 := zh (za hn3 HP2.out)
 have hF : (w2.alloc (fndB a)).heap[w2.heap.size]? = some (fndB a) := heap_alloc_new _ _
 obtain ⟨w3, hw3⟩ : ∃ w3, w2.alloc (fndB a) = w3 := ⟨_, rfl⟩
 rw [hw3] at H3 HP3 hF ⊢
 have HF3 := zh hF
 clear hn3 hF hw3 H1 HP1 HP2 HAT HDC
 have hc3 := fun o => cell_of_row w3 w2.heap.size o _ _ _ HF3.out
 have hc4 := fun o => cell_of_row w3 A.br o _ _ _ H3.out.hbr
 have hn4 : Below w3.heap.size w3 (w3.alloc (itmB p a.1)) := (Below.refl _ _).alloc (zn _) _
 have H4 := zh (H3.out.below hn4)
 have HS4 := zh (Nat.le_trans H3.out.tr.size hn4.size)
 clear hn4
 go_upto_region 6 with (first
  | (refine ldT 47 (HP3.out) ?_)
  | (refine zJ (.tmp 30) (.tmp 35) 48 55 rfl 9 64 _ infoItm Tryz.underlying48 rfl (by decide) (by decide) w0.heap.size HS4.out vcd cd.length (x9 I cd) rfl H4.out.oc (Nat.le_trans hlc (by decide)) w3.heap.size 1 _ _ _ rfl (heap_alloc_new w3 (itmB p a.1)) rfl rfl (by decide) (by decide) rfl ?_
     intro ga cp w5 ho5 hg5 hv5
     have h5 := H4.out.code (p := p) (v' := .slice (some ⟨ga, 0, none⟩) (cd.length + 1) cp) (by rw [HIT.out]; exact ho5) hg5
     have H5 := zh h5
     have HG5 := zh hg5
     have hc5 := fun o => cell_of_row w5 A.br o _ _ _ H5.out.2
     have hf5 := fun o => frozen_of_row w5 A.br o _ _ H5.out.2
     clear h5 ho5 hg5 hv5))
 clear hc3 hc4 hc5 hf5
 obtain ⟨w6, hw6⟩ : ∃ w6, w5.setCell ⟨A.br, 5, none⟩ (.slice (some ⟨ga, 0, none⟩) (cd.length + 1) cp) = w6 := ⟨_, rfl⟩
 have hk6 : ∀ {b : Nat} {cs : Array Value} {T : TypeId}, w3.heap[b]? = some (.cells cs T (0, 0)) → T ≠ 55 → T ≠ 50 → w6.heap[b]? = some (.cells cs T (0, 0)) := fun hb hn hn2 => by
  have h1 := za ((Below.refl _ w3).alloc (zn _) (itmB p a.1)) hb
  have h2 := (HG5.out.block _ (Array.getElem?_eq_some_iff.1 h1).1 (fun e => xY H4.out.oc h1 (fun _ _ => zm hn) e.symm)).trans h1
  rw [← hw6, heap_setCell_other (fun e => by
   rw [e, H5.out.2] at h2
   injection h2 with h2
   injection h2 with _ h2
   exact hn2 h2.symm)]
  exact h2
 have HP6 := zh (hk6 HP3.out (by decide) (by decide))
 have HF6 := zh (hk6 HF3.out (by decide) (by decide))
 have HZ6 := zh (show w.heap.size < w6.heap.size from (Array.getElem?_eq_some_iff.1 HP6.out).1)
 have h6 := H5.out.1
 rw [hw6] at h6 ⊢
 have H6 := zh h6
 have HS6 := zh (HS.out.turn h6.tr h6.kn)
 clear hk6 hw6 h6 H5 HG5 H4 HS4 H3 HP3 HF3
 refine zr (S := fun W' => (∀ o, W'.cell? ⟨A.bs, o, none⟩ = (#[.pointer (some ⟨A.gs, 0, none⟩)] : Array Value)[o]?) ∧ (∀ o, W'.cell? ⟨A.gs, o, none⟩ = (#[.slice ba I.banks.length bc, .int .u16 I.entry, .int .u16 I.vector, .slice da I.data.length dc, .slice ra rn rc, .map (some A.gk)] : Array Value)[o]?) ∧ (∀ o, W'.cell? ⟨w.heap.size, o, none⟩ = (#[.int .i64 p.bank, .int .u16 p.addr] : Array Value)[o]?) ∧ (∀ o, W'.cell? ⟨w2.heap.size, o, none⟩ = (#[.int .i64 a.1.op, .int .i64 a.1.d, .int .i64 a.1.s, .int .u16 a.1.imm, .int .u16 a.1.aux, .int .i64 a.1.bank, .int .i64 a.1.size, .int .i64 a.2] : Array Value)[o]?)) [8] (by kernel_rfl) (by
  have hd := (Below.refl w6.heap.size w6).drew
  exact ⟨fun o => cell_of_row _ _ _ _ _ _ (za hd H6.out.hbs), fun o => cell_of_row _ _ _ _ _ _ (za hd HS6.out.blk), fun o => cell_of_row _ _ _ _ _ _ (za hd HP6.out), fun o => cell_of_row _ _ _ _ _ _ (za hd HF6.out)⟩) (fun hHeld => ?_)
 (refine tz 0 ?_)
 (refine tz 1 ?_)
 (refine tz 2 ?_)
 (refine tz 3 ?_)
 (refine tz 4 ?_)
 (refine tz 5 ?_)
 (refine tz 6 ?_)
 refine yx 7 rfl (fun K hK => ?_)
 go_simp
 with_reducible refine (HFO.out _ (HS6.out.img.below (Below.refl w6.heap.size w6).drew)).mono ?_
 rintro e7 w7 ⟨gf, gi, lf, vn, vc, vt, rfl, hfw, hb7⟩
 have hb7' : Below w6.heap.size w6 w7 := (Below.refl w6.heap.size w6).drew.trans hb7
 have H7 := zh (H6.out.below hb7')
 have HS7 := zh (HS6.out.below hb7')
 have HP7 := zh (za hb7' HP6.out)
 have HF7 := zh (za hb7' HF6.out)
 have HW7 := zh hfw
 have HZ7 := zh hb7'.size
 clear hb7 hb7' hfw hHeld HS6 HP6 HF6 HFO
 go_simp
 refine hK.out _ _ (.inr ⟨fun o => cell_of_row _ _ _ _ _ _ H7.out.hbs, fun o => cell_of_row _ _ _ _ _ _ HS7.out.blk, fun o => cell_of_row _ _ _ _ _ _ HP7.out, fun o => cell_of_row _ _ _ _ _ _ HF7.out⟩) ?_
 (refine pts ?_)
 clear hK K
 refine z8 8 ?_
 simp only [List.drop_succ_cons, List.drop_zero]
 go_wp2_with fail
 have HNQ := zh (fun k (hk : vq.ownBlock = some k) => (H.out.oq.lt k hk).2)
 have HZW := zh (show w.heap.size < w7.heap.size from (Array.getElem?_eq_some_iff.1 HP7.out).1)
 clear HF7 HS7
 obtain ⟨An, cn, hvn, hA0, -⟩ := zt HW7.out.on
 subst hvn
 have hd7 := (Below.refl w7.heap.size w7).drew
 have H8 := zh (H7.out.below hd7)
 have HW8 := zh (HW7.out.below hd7)
 have HP8 := zh (za hd7 HP7.out)
 have HSR := zh (own_src HW8.out.on)
 have HA0 := zh hA0
 refine zr (S := fun W' => (∀ o, W'.cell? ⟨A.bq, o, none⟩ = (#[vq] : Array Value)[o]?) ∧ (∀ o, W'.cell? ⟨gf, o, none⟩ = (#[.slice An F.nx.length cn, vc, .map (some gi), vt] : Array Value)[o]?)) [6] (by kernel_rfl) ⟨fun o => cell_of_row _ _ _ _ _ _ H8.out.hbq, fun o => cell_of_row _ _ _ _ _ _ HW8.out.blk⟩ (fun hHeld => ?_)
 clear H7 HW7 HP7 hd7 hA0
 (refine tz 0 ?_)
 (refine tz 1 ?_)
 (refine tz 2 ?_)
 (refine tz 3 ?_)
 (refine tz 4 ?_)
 refine yx 5 rfl (fun K hK => ?_)
 obtain ⟨iP, hiP, hzP, hz1P, hz2P⟩ := info_parts y7
 have hmx : Q.length + F.nx.length ≤ 50000000300 := by have := HFB.out.ln; omega
 have hbs0 : w0.heap.size ≤ w7.drew.heap.size := H8.out.tr.size
 refine wp_append_q w7.drew (.tmp 46) (.tmp 50) 40 rfl w0.heap.size 47 iP _ 2 16 Tryz.underlying40 hiP hzP hz1P hz2P rfl (by decide) vq Q.length (zp Q) rfl H8.out.oq An F.nx.length cn HA0.out (zp F.nx) rfl HSR.out (plcsL_one _) (Nat.le_trans hmx (by decide)) (by omega) hbs0 ?_
 intro v8 w8 ho8 hg8 hv8
 obtain ⟨gq, oq, cq, rfl⟩ : ∃ gq oq cq, v8 = .slice (some ⟨gq, oq, none⟩) (Q.length + F.nx.length) cq := by
  obtain ⟨-, g, off, cap, cur, hv, -⟩ := ho8
  exact ⟨g, off, cap, hv⟩
 have h8 := H8.out.queue (Q' := Q ++ F.nx) (v' := .slice (some ⟨gq, oq, none⟩) (Q.length + F.nx.length) cq) (by rw [List.length_append, xx]; exact ho8) hg8
 have H9 := zh h8
 have ht8 : zg (fun k => vq.ownBlock = some k) w7.drew w8 := (zg.refl _ _).grown hg8 (fun k e _ => e)
 have HLT := zh (show w7.heap.size ≤ w8.heap.size from hg8.size)
 have HW9 := zh (HW8.out.turn ht8 (fun k e => by have h1 := HNQ.out k e; have h2 := HZ6.out; show k < w6.heap.size + 3; omega))
 have HP9 := zh (ht8.heap HP8.out (fun e => by have := HNQ.out _ e; omega))
 refine hK.out _ _ (.inr ⟨fun o => cell_of_row _ _ _ _ _ _ H9.out.2, fun o => cell_of_row _ _ _ _ _ _ HW9.out.blk⟩) ?_
 (refine pts ?_)
 clear hK K hHeld ho8 hg8 hv8 h8 ht8 H8 HW8 HP8 hmx hbs0
 refine z8 6 ?_
 simp only [List.drop_succ_cons, List.drop_zero]
 have hc9 := fun o => cell_of_row w8 A.bq o _ _ _ H9.out.2
 have hf9 := fun o => frozen_of_row w8 A.bq o _ _ H9.out.2
 go_upto_region 8 with fail
 clear hc9 hf9
 have hbq : A.bq < w.heap.size := (Array.getElem?_eq_some_iff.1 H.out.hbq).1
 obtain ⟨w9, hw9⟩ : ∃ w9, w8.setCell ⟨A.bq, 0, none⟩ (.slice (some ⟨gq, oq, none⟩) (Q.length + F.nx.length) cq) = w9 := ⟨_, rfl⟩
 have ht9 : zg (fun k => k = A.bq) w8 w9 := by rw [← hw9]; exact (zg.refl _ w8).setCell _ (fun _ => rfl)
 have h9 := H9.out.1
 rw [hw9] at h9 ⊢
 have H10 := zh h9
 have HW10 := zh (HW9.out.turn ht9 (fun k e => by have h2 := HZ6.out; show k < w6.heap.size + 3; omega))
 have HP10 := zh (ht9.heap HP9.out (fun e => by omega))
 clear h9 ht9 hw9 H9 HW9 HP9 hbq
 obtain ⟨Ac, cc, hvc, -, -⟩ := zt HW10.out.oc
 subst hvc
 have hc10 := fun o => cell_of_row w9 gf o _ _ _ HW10.out.blk
 go_upto_block 0 with fail
 clear hc10
 go_cut [] (fun wx => Hid (∃ vis' vcd' vq', VsW I e A w0 (D ++ [p]) (cd ++ [p]) (Q ++ F.nx) (xU C F.cl) iss vcd' vis' vq' wx) ∧ Hid (∃ vn' vc' vt', yK (w6.heap.size + 3) F gf gi lf vn' vc' vt' wx) ∧ Hid (wx.heap[w.heap.size]? = some (zo p)))
 case first =>
  have hlc := HFB.out.lc
  have hcs : F.cl = [] ∨ ∃ qq qs, F.cl = qq :: qs := by cases F.cl <;> simp
  rcases hcs with hcl | ⟨qq, qs, hcl⟩
  ·have h0 : ¬ (0 : Int) < (F.cl.length : Int) := by rw [hcl]; simp
   have HADD := zh (show xU C F.cl = C by rw [hcl]; rfl)
   clear hcl hlc
   go_wp2_with fail
   refine wp_loop_rounds 1 ?_
   rw [rounds_succ]
   go_wp2_with fail
   go_meet
   exact ⟨zh ⟨_, _, _, by rw [HADD.out]; exact H10.out⟩, zh ⟨_, _, _, HW10.out⟩, HP10⟩
  ·have hqs : qs = [] := by
    rw [hcl] at hlc
    simp at hlc
    exact hlc
   subst hqs
   have h0 : (0 : Int) < (F.cl.length : Int) := by rw [hcl]; simp
   have h0' : 0 < F.cl.length := by rw [hcl]; simp
   have h0'' : ¬ (1 : Int) < (F.cl.length : Int) := by rw [hcl]; simp
   have HADD := zh (show xU C F.cl = (if qq ∈ C then C else C ++ [qq]) by rw [hcl]; rfl)
   obtain ⟨gA, hA, -⟩ : ∃ g, Ac = some ⟨g, 0, none⟩ ∧ True := by
    rcases own_form HW10.out.oc with ⟨-, -, h⟩ | ⟨g, h, -⟩
    ·omega
    ·exact ⟨g, h, trivial⟩
   subst hA
   have hq0 : w9.cell? ⟨gA, 0, none⟩ = some (.int .i64 qq.bank) := HW10.out.oc.cells (g := gA) rfl 0 (.int .i64 qq.bank) (by rw [hcl]; rfl)
   have hq1 : w9.cell? ⟨gA, 1, none⟩ = some (.int .u16 qq.addr) := HW10.out.oc.cells (g := gA) rfl 1 (.int .u16 qq.addr) (by rw [hcl]; rfl)
   have hcc := (own_cap HW10.out.oc).1
   clear hcl hlc
   have HX11 := zh (show Below w9.heap.size w9 (w9.alloc (zo qq)) from (Below.refl _ _).alloc (zn _) _)
   have H11 := zh (H10.out.below HX11.out)
   have hc11 := fun o => cell_of_row _ A.bc o _ _ _ H11.out.hbc
   have HM11 := zh H11.out.hc
   go_wp2_with fail
   refine wp_loop_rounds 2 ?_
   rw [rounds_succ]
   go_wp2_with (first
    | (refine stN ?_)
    | (refine ldT 47 (heap_alloc_new _ _) ?_)
    | (refine zZ xj Tryz.underlying141 HM11.out rfl _ _ _ rfl rfl qq rfl (.bool true) rfl ?_; intro w12 hm12 hg12 hz12))
   rw [rounds_succ]
   go_wp2_with fail
   go_meet
   have H12 := H11.out.called hm12 hg12
   rw [← HADD.out] at H12
   have ht12 : zg (fun k => k = A.gc) w9 w12 := (zg.ofBelow HX11.out).grown hg12 (fun k e _ => by injection e with e; exact e.symm)
   have hgc : A.gc < w.heap.size := (Array.getElem?_eq_some_iff.1 H.out.hc).1
   exact ⟨zh ⟨_, _, _, H12⟩, zh ⟨_, _, _, HW10.out.turn ht12 (fun k e => by have h2 := HZ6.out; show k < w6.heap.size + 3; omega)⟩, zh (ht12.heap HP10.out (fun e => by omega))⟩
 case rest =>
  obtain ⟨HVc, HWc, HPc⟩ := hcut
  obtain ⟨vis1, vcd1, vq1, hV⟩ := HVc.out
  obtain ⟨vn1, vc1, vt1, hW⟩ := HWc.out
  have hRR : (wc.alloc (je gi lf.length [])).heap[wc.heap.size]? = some (je gi lf.length []) := heap_alloc_new _ _
  have hb13 : Below wc.heap.size wc (wc.alloc (je gi lf.length [])) := (Below.refl _ _).alloc (zn _) _
  have HV13 := zh (hV.below hb13)
  have HW13 := zh (hW.below hb13)
  have HP13 := zh (za hb13 HPc.out)
  have HLL := zh hW.len
  have HKY := zh (fun e => hW.keys e)
  have HNK := zh hW.nd
  have HRS := zh (show w.heap.size < wc.heap.size from (Array.getElem?_eq_some_iff.1 HPc.out).1)
  have hcc := fun o => cell_of_row wc gf o _ _ _ hW.blk
  have HMc := zh hW.mp
  obtain ⟨w13, hw13⟩ : ∃ w13, wc.alloc (je gi lf.length []) = w13 := ⟨_, rfl⟩
  have HR13 := zh hRR
  clear hV hW hRR hb13 H10 HW10 HP10
  go_wp2_with (refine wpList_rangeL rfl _ rfl Tryz.underlying155 rfl HMc.out ?_)
  rw [hw13] at HV13 HW13 HP13 HR13 ⊢
  clear hw13 hcc
  (refine pts ?_)
  go_loopg [] lf.length (fun k wr => ∃ (seen : List Nat) (m : List zM) (vis' : Value), k + seen.length = lf.length ∧ Hid (SeenM p lf seen m) ∧ Hid (VsW I e A w0 (D ++ [p]) (cd ++ [p]) (Q ++ F.nx) (xU C F.cl) (iss ++ m) vcd1 vis' vq1 wr) ∧ Hid (wr.heap[wc.heap.size]? = some (je gi lf.length seen)) ∧ Hid (wr.heap[gi]? = some (yc errV lf)) ∧ Hid (wr.heap[w.heap.size]? = some (zo p)))
  case atStart => exact ⟨[], [], vis1, by simp, zh ⟨⟨List.nodup_nil, by simp⟩, List.nodup_nil, rfl, by simp⟩, (by rw [List.append_nil]; exact HV13), HR13, zh HW13.out.mp, HP13⟩
  case round =>
   obtain ⟨seen, m, vis', hk, HSM, HVR, HIR, HGR, HPR⟩ := hrel
   go_upto_region 15 with (at_next; refine wpList_nextL rfl _ rfl rfl HIR.out HGR.out (fun hall => ?_) (fun j q w15 hl hn hr15 hg15 hz15 => ?_))
   ·go_wp2_with fail
    go_end0
    refine ⟨rfl, _, _, _, _, ⟨m, rfl, HSM.out.2.1, fun x => ?_⟩, HVR.out⟩
    rw [HSM.out.2.2.2 x, HKY.out x.kind]
    refine and_congr_right fun _ => ⟨fun ⟨j, hj, hjj⟩ => ?_, fun hm => ?_⟩
    ·rw [← List.getElem?_map] at hjj
     exact List.mem_of_getElem? hjj
    ·obtain ⟨j, hj⟩ := List.mem_iff_getElem?.1 hm
     have hlt := (List.getElem?_eq_some_iff.1 hj).1
     rw [List.length_map] at hlt
     exact ⟨j, hall j hlt, by rw [← List.getElem?_map]; exact hj⟩
   ·have hen : (Instr.entry (.pointer (some ⟨wc.heap.size, 0, none⟩))).run Tryz.prog w15 = .ok (.tuple #[.int .i64 q.1, q.2]) w15 := run_entryL hr15 ((hg15.block gi (Array.getElem?_eq_some_iff.1 HGR.out).1 (fun e => by injection e with e; have h1 := HGR.out; rw [e, HIR.out] at h1; cases h1)).trans HGR.out) hl
    have ht15 : zg (fun k => k = wc.heap.size) wr w15 := (zg.refl _ wr).grown hg15 (fun k e _ => by injection e with e; exact e.symm)
    have hgd : A.gd < w.heap.size := (Array.getElem?_eq_some_iff.1 H.out.hd).1
    have hgc : A.gc < w.heap.size := (Array.getElem?_eq_some_iff.1 H.out.hc).1
    have hgk := HLK.out
    have hrs := HRS.out
    have h00 := H.out.tr.size
    have HV15 := zh (HVR.out.other ht15 HIR.out (fun _ _ _ e => by cases e) (by omega) (by omega) (by omega) (by omega))
    have HG15 := zh (ht15.heap HGR.out (fun e => by have h1 := HGR.out; rw [e, HIR.out] at h1; cases h1))
    have HP15 := zh (ht15.heap HPR.out (by omega))
    have HI15 := zh hr15
    have HSM2 := zh (HSM.out.snoc HNK.out hl hn)
    have HLJ := zh (show seen.length + 1 ≤ lf.length from by have h1 := HSM2.out.1; have h2 := yw (m := List.range lf.length) h1.1 (fun x hx => List.mem_range.2 (h1.2 x hx)); simpa using h2)
    have hlm : (iss ++ m).length ≤ 100000003 := by have h1 := HSM.out.2.2.1; have h2 := HLL.out; have h3 := HLJ.out; rw [List.length_append]; omega
    have HLM := zh hlm
    have HX16 := zh (show Below w15.heap.size w15 (w15.alloc (y8 ⟨q.1, p⟩)) from (Below.refl _ _).alloc (zn _) _)
    have H16 := zh (HV15.out.below HX16.out)
    have HS16 := zh H16.out.tr.size
    have hc15 := fun o => cell_of_row w15 A.br o _ _ _ HV15.out.hbr
    clear hl hn hr15 hg15 hz15 ht15 hgd hgc hgk hrs h00 hlm HVR HIR HGR HPR
    go_wp2_with (first
     | (refine ldT 47 (HP15.out) ?_)
     | (refine zJ (.tmp 74) (.tmp 78) 36 58 rfl 3 24 _ infoIss Tryz.underlying36 rfl (by decide) (by decide) w0.heap.size HS16.out vis' (iss ++ m).length (yf (iss ++ m)) rfl H16.out.oi (Nat.le_trans HLM.out (by decide)) w15.heap.size 1 _ _ _ rfl (heap_alloc_new w15 (y8 ⟨q.1, p⟩)) rfl rfl (by decide) (by decide) rfl ?_
        intro gb cb w17 ho17 hg17 hv17
        have h17 := H16.out.issue (x := ⟨q.1, p⟩) (v' := .slice (some ⟨gb, 0, none⟩) ((iss ++ m).length + 1) cb) ho17 hg17
        have H17 := zh h17
        have HG17 := zh hg17
        have hc17 := fun o => cell_of_row w17 A.br o _ _ _ H17.out.2
        have hf17 := fun o => frozen_of_row w17 A.br o _ _ H17.out.2
        clear h17 ho17 hg17 hv17))
    go_roundg (lf.length - (seen.length + 1))
    case measure => have := HLJ.out; omega
    case rel =>
     have hlj := HLJ.out
     have hk17 : ∀ {b : Nat} {o : Obj}, w15.heap[b]? = some o → (∀ cs fr, o ≠ .cells cs 58 fr) → (∀ cs fr, o ≠ .cells cs 50 fr) → (w17.setCell ⟨A.br, 7, none⟩ (.slice (some ⟨gb, 0, none⟩) ((iss ++ m).length + 1) cb)).heap[b]? = some o := fun hb hn hn2 => by
      have h1 := za HX16.out hb
      have h2 := (HG17.out.block _ (Array.getElem?_eq_some_iff.1 h1).1 (fun e => xY H16.out.oi h1 hn e.symm)).trans h1
      rw [heap_setCell_other (fun e => by
       rw [e, H17.out.2] at h2
       injection h2 with h2
       exact hn2 _ _ h2.symm)]
      exact h2
     have hv := H17.out.1
     rw [List.append_assoc] at hv
     simp only [List.length_append] at hv hk17
     exact ⟨seen ++ [j], m ++ [⟨q.1, p⟩], _, by simp; omega, HSM2, zh hv, zh (hk17 HI15.out (fun _ _ e => by cases e) (fun _ _ e => by cases e)), zh (hk17 HG15.out (fun _ _ e => by cases e) (fun _ _ e => by cases e)), zh (hk17 HP15.out (fun _ _ => zm (by decide)) (fun _ _ => zm (by decide)))⟩
end
end Go.Proofs.YteofmaiojepdkaaGreat
namespace Go.Proofs.YteofmaiojepdkaaGreat
theorem yu.ofThunk {I : zk} {e : zb} (h : yS I e) : yu I e ⟨e, true, (zU (atI I e).1 e).1, [e], [], []⟩ :=
 ⟨rfl, (decide_eq_true h).symm, fun _ => ⟨rfl, rfl, rfl, rfl⟩, fun n => absurd h n, List.pairwise_singleton _ _, .nil, .nil, fun n => absurd h n, fun n => absurd h n, fun n => absurd h n⟩
theorem yu.ofDone {I : zk} {e : zb} {D C L : List zb} {S : List zM} (ht : ¬ yS I e) (hD : ∀ x, x ∈ D ↔ Rch I e x)
  (sc : C.Pairwise zP) (sl : L.Pairwise zP) (si : S.Pairwise yR) (mc : ∀ p, p ∈ C ↔ p ∈ D ∧ okI I p) (ml : ∀ q, q ∈ L ↔ ∃ p, p ∈ D ∧ okI I p ∧ q ∈ (fl I p).cl)
  (mi : ∀ x : zM, x ∈ S ↔ x.at_ ∈ D ∧ ((¬ okI I x.at_ ∧ x.kind = (atI I x.at_).2) ∨ (okI I x.at_ ∧ x.kind ∈ (fl I x.at_).iss))) : yu I e ⟨e, false, ⟨0, 0⟩, C, L, S⟩ :=
 ⟨rfl, (decide_eq_false ht).symm, fun h => absurd h ht, fun _ => rfl, sc, sl, si, fun _ p => by rw [mc, hD], fun _ q => by rw [ml]; simp only [hD], fun _ x => by rw [mi, hD]⟩
structure EntI (I : zk) (more : List zb) (V : List zb) (R : List xc) : Prop where
 first : (⟨0, I.entry⟩ : zb) ∈ V
 vec : I.vector ≠ 0 → (⟨0, I.vector⟩ : zb) ∈ V
 mo : ∀ p ∈ more, p ∈ V
 ent : ∀ p ∈ V, Ent I more p
 rt : ∀ r ∈ R, yu I r.entry r
 rn : (R.map (·.entry)).Nodup
 rv : ∀ r ∈ R, r.entry ∈ V
 cl : ∀ r ∈ R, ∀ q ∈ r.calls, q ∈ V
 th : ∀ r ∈ R, r.thunk = true → r.dest ∈ V
section
variable {I : zk} {more V V' : List zb} {R : List xc}
theorem EntI.step (h : EntI I more V R) {r : xc} (hr : yu I r.entry r) (hv : r.entry ∈ V) (hn : r.entry ∉ R.map (·.entry)) (hV : ∀ p, p ∈ V' ↔ p ∈ V ∨ p ∈ r.calls ∨ (r.thunk = true ∧ p = r.dest)) : EntI I more V' (R ++ [r]) := by
 have k : ∀ p, p ∈ V → p ∈ V' := fun p hp => (hV p).2 (.inl hp)
 refine ⟨k _ h.first, fun hv => k _ (h.vec hv), fun p hp => k p (h.mo p hp), fun p hp => ?_, fun x hx => ?_, ?_, fun x hx => ?_, fun x hx q hq => ?_, fun x hx ht => ?_⟩
 ·rcases (hV p).1 hp with hp | hp | ⟨ht, rfl⟩
  ·exact h.ent p hp
  ·exact .call (h.ent _ hv) hr hp
  ·have hd : yS I r.entry := by have := hr.th; rw [ht] at this; exact of_decide_eq_true this.symm
   rw [(hr.thk hd).1]
   exact .thunk (h.ent _ hv) hd
 ·rcases List.mem_append.1 hx with hx | hx
  ·exact h.rt x hx
  ·rw [List.mem_singleton.1 hx]; exact hr
 ·rw [List.map_append, List.map_cons, List.map_nil]
  refine List.nodup_append.2 ⟨h.rn, by simp, fun a ha b hb => ?_⟩
  rw [List.mem_singleton.1 hb]; rintro rfl; exact hn ha
 ·rcases List.mem_append.1 hx with hx | hx
  ·exact k _ (h.rv x hx)
  ·rw [List.mem_singleton.1 hx]; exact k _ hv
 ·rcases List.mem_append.1 hx with hx | hx
  ·exact k _ (h.cl x hx q hq)
  ·rw [List.mem_singleton.1 hx] at hq; exact (hV q).2 (.inr (.inl hq))
 ·rcases List.mem_append.1 hx with hx | hx
  ·exact k _ (h.th x hx ht)
  ·rw [List.mem_singleton.1 hx] at ht ⊢; exact (hV _).2 (.inr (.inr ⟨ht, rfl⟩))
theorem EntI.all (h : EntI I more V R) (hd : ∀ p ∈ V, p ∈ R.map (·.entry)) (p : zb) : p ∈ V ↔ Ent I more p := by
 refine ⟨h.ent p, fun hp => ?_⟩
 induction hp with
 | first => exact h.first
 | vec hv => exact h.vec hv
 | more hm => exact h.mo _ hm
 | @call e q r h1 h2 h3 ih =>
  obtain ⟨r', hr', he⟩ := List.mem_map.1 (hd e ih)
  have := (he ▸ h.rt r' hr' : yu I e r').uniq h2
  subst this
  exact h.cl r' hr' q h3
 | @thunk e h1 h2 ih =>
  obtain ⟨r', hr', he⟩ := List.mem_map.1 (hd e ih)
  have hi : yu I e r' := he ▸ h.rt r' hr'
  have := h.th r' hr' (by rw [hi.th]; exact decide_eq_true h2)
  rwa [(hi.thk h2).1] at this
theorem EntI.rtns (h : EntI I more V R) (hd : ∀ p ∈ V, p ∈ R.map (·.entry)) (h2 : R.length ≤ 2000) {S : List xc} (hS : (S.map (·.entry)).Pairwise zP) (hm : ∀ r, r ∈ S ↔ r ∈ R) : yz I more (some S) := by
 have hmm : ∀ p, p ∈ S.map (·.entry) ↔ p ∈ R.map (·.entry) := fun p => by simp only [List.mem_map, hm]
 refine ⟨hS, ?_, fun r hr => h.rt r ((hm r).1 hr), fun p => ?_⟩
 ·have := yw (xf zP.irr hS) fun p hp => (hmm p).1 hp
  rw [List.length_map, List.length_map] at this
  omega
 ·rw [hmm]
  refine ⟨fun hp => ?_, fun hp => hd p ((h.all hd p).2 hp)⟩
  obtain ⟨r, hr, rfl⟩ := List.mem_map.1 hp
  exact h.ent _ (h.rv r hr)
theorem EntI.many (h : EntI I more V R) (hn : V.Nodup) (h2 : 2000 < V.length) : yz I more none := ⟨V, hn, h.ent, h2⟩
end
theorem rtn_some {I : zk} {e : zb} {r : xc} (h : yu I e r) : yu I r.entry r := by have := h.en; rw [this]; exact h
end Go.Proofs.YteofmaiojepdkaaGreat
