/- Layer 16: the reference's Put. -/
import Derived.Test.YtmlekhkgokgpbaaC16j
import Derived.Test.YtmlekhkgokgpbaaRegU
set_option linter.unusedSimpArgs false
namespace Go.Proofs.Ytmlekhkgokgpbaa
open Go.RowKit Go

theorem rate_rd {S : Nat → Prop} {w : World} {c : ByteArray} {k u v : Int} (h : (⟨c, k, u⟩ : K3).ok) (hv : (Lit.int .i64 v).wf = true) : Rd rateT S w [.string c, .int .i64 k, .int .i64 u, .int .i64 v] (c, k, u, v, ()) :=
  ⟨[_], [_, _, _], rfl, ⟨rfl, h.1⟩, [_], [_, _], rfl, ⟨rfl, h.2.1⟩, [_], [_], rfl, ⟨rfl, h.2.2⟩, [_], [], rfl, ⟨rfl, hv⟩, rfl⟩
def putStep (r : Rt) (s : List rateT.den × Bool) (x : rateT.den) : List rateT.den × Bool :=
  let s1 := if s.2 = false ∧ beforeK (rt x) r = false then (s.1 ++ [r.d], true) else s
  if sameK (rt x) r = false then (s1.1 ++ [x], s1.2) else s1
def putL (l : List rateT.den) (r : Rt) : List rateT.den :=
  let s := l.foldl (putStep r) ([], false)
  if s.2 = false then s.1 ++ [r.d] else s.1
theorem rate_blk {w : World} {p : Nat} {c : ByteArray} {k u v : Int} {t : TypeId} (h : w.heap[p]? = some (.cells #[.string c, .int .i64 k, .int .i64 u, .int .i64 v] t (0, 0))) :
    w.cell? ⟨p, 0, none⟩ = some (.string c) ∧ w.cell? ⟨p, 1, none⟩ = some (.int .i64 k) ∧ w.cell? ⟨p, 2, none⟩ = some (.int .i64 u) ∧ w.cell? ⟨p, 3, none⟩ = some (.int .i64 v) :=
  ⟨blk_cell h 0, blk_cell h 1, blk_cell h 2, blk_cell h 3⟩
set_option maxRecDepth 20000 in
set_option maxHeartbeats 600000 in
theorem refPut_sum {S : Nat → Prop} (w : World) (a : Option Addr) (len cap : Nat) (xs : List rateT.den) (hx : Rd (.sl rateT) S w [.slice a len cap] xs) (hS : ∀ b, S b → b < w.heap.size) (r : Rt) (hok : r.k.ok) (hv : (Lit.int .i64 r.val).wf = true) (hlen : len ≤ 1000000) :
    Calls Try.prog 34 #[.slice a len cap, r.v] w fun e w' => ∃ v, e = .returned v ∧ Below w.heap.size w w' ∧ Owns rateT 35 w.heap.size (fun _ => False) w' v (putL xs r) := by
  obtain ⟨hl, hc, hm, -⟩ := hx.sl_flat
  have HX := Lib.hid hx
  have HL := Lib.hid hl
  have HS := Lib.hid hS
  have HOK := Lib.hid hok
  have HV := Lib.hid hv
  have hbf := fun W a => before_sum W a r
  have hsk := fun W a => sameKey_sum W a r
  have hrd : ∀ W, Rd rateT (fun _ => False) W [.string r.cur, .int .i64 r.kind, .int .i64 r.when_, .int .i64 r.val] r.d := fun W => rate_rd hok hv
  obtain ⟨D, hD⟩ : ∃ D, r.d = D := ⟨_, rfl⟩
  obtain ⟨PS, hPS⟩ : ∃ PS, putStep r = PS := ⟨_, rfl⟩
  have hps : ∀ (zs : List rateT.den) (dn : Bool) (x : rateT.den), PS (zs, dn) x = (let s1 := if dn = false ∧ beforeK (rt x) r = false then (zs ++ [D], true) else (zs, dn); if sameK (rt x) r = false then (s1.1 ++ [x], s1.2) else s1) := fun zs dn x => by rw [← hPS, ← hD]; rfl
  have hfin : ∀ zs dn, xs.foldl PS ([], false) = (zs, dn) → putL xs r = if dn = false then zs ++ [D] else zs := fun zs dn h => by unfold putL; rw [hPS, h, hD]
  rw [hD] at hrd
  have HBF := Lib.hid hbf
  have HSK := Lib.hid hsk
  have HRD := Lib.hid hrd
  have HPS := Lib.hid hps
  have HFIN := Lib.hid hfin
  clear hx hl hS hok hv hbf hsk hrd hD hPS hps hfin
  obtain ⟨rc, rk, rw_, rv⟩ := r
  unfold Rt.v rateV at *
  try simp only at HBF
  try simp only at HSK
  try simp only at HRD
  try simp only at HPS
  try simp only at HFIN
  try simp only
  go_enter Try.func34, Try.ntmps34
  go_wp2_with fail
  have hh := heap_alloc_new w (.cells #[.string rc, .int .i64 rk, .int .i64 rw_, .int .i64 rv] 35)
  have hB1 : Below w.heap.size w (w.alloc (.cells #[.string rc, .int .i64 rk, .int .i64 rw_, .int .i64 rv] 35)) := (Below.refl _ w).alloc (Nat.le_refl _) _
  have hsz1 : (w.alloc (.cells #[.string rc, .int .i64 rk, .int .i64 rw_, .int .i64 rv] 35)).heap.size = w.heap.size + 1 := by simp
  generalize w.alloc (.cells #[.string rc, .int .i64 rk, .int .i64 rw_, .int .i64 rv] 35) = W1 at *
  go_loopw [5, 6, 7] (fun out d i wr => ∃ (k : Nat) (oa : Option Addr) (ol oc : Nat) (zs : List rateT.den) (dn : Bool), k ≤ len ∧ i = .int .i64 k ∧ out = .slice oa ol oc ∧ d = .bool dn ∧ (xs.take k).foldl PS ([], false) = (zs, dn) ∧ zs.length ≤ 2 * k ∧ Owns rateT 35 (w.heap.size + 1) (fun _ => False) wr (.slice oa ol oc) zs ∧ Below (w.heap.size + 1) W1 wr) (fun _ _ i _ => len - (intOf i).toNat)
  case atStart => exact ⟨0, none, 0, 0, [], false, Nat.zero_le _, rfl, rfl, rfl, rfl, Nat.zero_le _, Owns.nil _ _ _ _, Below.refl _ _⟩
  case round =>
    obtain ⟨k, oa, ol, oc, zs, dn, hk, rfl, rfl, rfl, hz, hzl, hO, hB⟩ := hrel
    have HO := Lib.hid hO
    have HB := Lib.hid hB
    have HZ := Lib.hid hz
    have HZL := Lib.hid (show zs.length ≤ 2 * k ∧ k ≤ 1000000 by omega)
    have hwr := hB.size
    clear hO hB hz hzl
    by_cases hlt : k < len
    · have hkx : k < xs.length := by rw [HL.out]; exact hlt
      have hBw : Below w.heap.size w wr := hB1.trans (HB.out.mono (by omega))
      have HX1 := Lib.hid (HX.out.keep (w' := wr) (S' := S) (fun b hb => hBw.block b (HS.out b hb)) (fun _ h => h))
      obtain ⟨b, off, rfl, hb, k0, k1, k2, k3, -⟩ := rate_at HX1.out k hkx
      obtain ⟨hkok, hkv⟩ := rate_ok HX1.out k hkx
      have hbw := HS.out b hb
      have hnext : (xs.take (k + 1)).foldl PS ([], false) = PS (zs, dn) xs[k] := by
        rw [List.take_succ_eq_append_getElem hkx, List.foldl_append, HZ.out]
        rfl
      rw [HPS.out] at hnext
      have hrx : Rd rateT (fun _ => False) wr [.string (rt xs[k]).cur, .int .i64 (rt xs[k]).kind, .int .i64 (rt xs[k]).when_, .int .i64 (rt xs[k]).val] xs[k] := rate_rd hkok hkv
      generalize xs[k] = x at k0 k1 k2 k3 hnext hrx
      have hbfx := fun W => HBF.out W (rt x)
      have hskx := fun W => HSK.out W (rt x)
      obtain ⟨bb, hbb⟩ : ∃ bb, beforeK (rt x) ⟨rc, rk, rw_, rv⟩ = bb := ⟨_, rfl⟩
      obtain ⟨ss, hss⟩ : ∃ ss, sameK (rt x) ⟨rc, rk, rw_, rv⟩ = ss := ⟨_, rfl⟩
      rw [hbb, hss] at hnext
      rw [hbb] at hbfx
      rw [hss] at hskx
      generalize rt x = rx at k0 k1 k2 k3 hrx hbfx hskx
      obtain ⟨xc, xk, xw, xv⟩ := rx
      try simp only at k0 k1 k2 k3 hrx hbfx hskx
      have hhr := (HB.out.block _ (by omega)).trans hh
      obtain ⟨q0, q1, q2, q3⟩ := rate_blk hhr
      have HRX := Lib.hid (fun W => hrx.flat (w' := W) (S' := fun _ => False) rfl)
      have HN := Lib.hid hnext
      have HBX := Lib.hid hbfx
      have HSX := Lib.hid hskx
      have HLT := Lib.hid hlt
      have hkI : (k : Int) < (len : Int) := by omega
      clear hbb hss hnext hrx hbfx hskx hkok hkv hb
      have hS0 : Cells [(⟨b, off + k * 4, none⟩, .string xc), (⟨b, off + k * 4 + 1, none⟩, .int .i64 xk), (⟨b, off + k * 4 + 2, none⟩, .int .i64 xw), (⟨b, off + k * 4 + 3, none⟩, .int .i64 xv), (⟨w.heap.size, 0, none⟩, .string rc), (⟨w.heap.size, 1, none⟩, .int .i64 rk), (⟨w.heap.size, 2, none⟩, .int .i64 rw_), (⟨w.heap.size, 3, none⟩, .int .i64 rv)] wr.drew := ⟨k0, k1, k2, k3, q0, q1, q2, q3, trivial⟩
      have hcl : CellsLt (w.heap.size + 1) [(⟨b, off + k * 4, none⟩, .string xc), (⟨b, off + k * 4 + 1, none⟩, .int .i64 xk), (⟨b, off + k * 4 + 2, none⟩, .int .i64 xw), (⟨b, off + k * 4 + 3, none⟩, .int .i64 xv), (⟨w.heap.size, 0, none⟩, .string rc), (⟨w.heap.size, 1, none⟩, .int .i64 rk), (⟨w.heap.size, 2, none⟩, .int .i64 rw_), (⟨w.heap.size, 3, none⟩, .int .i64 rv)] := ⟨Nat.lt_succ_of_lt hbw, Nat.lt_succ_of_lt hbw, Nat.lt_succ_of_lt hbw, Nat.lt_succ_of_lt hbw, Nat.lt_succ_self _, Nat.lt_succ_self _, Nat.lt_succ_self _, Nat.lt_succ_self _, trivial⟩
      clear k0 k1 k2 k3 q0 q1 q2 q3
      cases dn
      · go_wp2_with fail
        refine wp_region_T (Cells [(⟨b, off + k * 4, none⟩, .string xc), (⟨b, off + k * 4 + 1, none⟩, .int .i64 xk), (⟨b, off + k * 4 + 2, none⟩, .int .i64 xw), (⟨b, off + k * 4 + 3, none⟩, .int .i64 xv), (⟨w.heap.size, 0, none⟩, .string rc), (⟨w.heap.size, 1, none⟩, .int .i64 rk), (⟨w.heap.size, 2, none⟩, .int .i64 rw_), (⟨w.heap.size, 3, none⟩, .int .i64 rv)]) (fun _ => false) (by kernel_rfl) ?_
        refine wpAnyT_pure (i := 0) (v := ?_) rfl (by kernel_rfl) (by kernel_rfl) (by kernel_rfl) (fun _ _ _ h => h) (by rfl) ?_ ?_
        rotate_left
        · intro w; go_simp; try with_reducible rfl
        simp only [Act.put, List.setIfInBounds_toArray, List.set_cons_zero, List.set_cons_succ, List.getElem_toArray, List.getElem_cons_succ, List.getElem_cons_zero]
        refine wpAnyT_pure (i := 1) (v := ?_) rfl (by kernel_rfl) (by kernel_rfl) (by kernel_rfl) (fun _ _ _ h => h) (by rfl) ?_ ?_
        rotate_left
        · intro w; go_simp; try with_reducible rfl
        simp only [Act.put, List.setIfInBounds_toArray, List.set_cons_zero, List.set_cons_succ, List.getElem_toArray, List.getElem_cons_succ, List.getElem_cons_zero]
        refine wpAnyT_pure (i := 2) (v := ?_) rfl (by kernel_rfl) (by kernel_rfl) (by kernel_rfl) (fun _ _ _ h => h) (by rfl) ?_ ?_
        rotate_left
        · intro w; go_simp; try with_reducible rfl
        simp only [Act.put, List.setIfInBounds_toArray, List.set_cons_zero, List.set_cons_succ, List.getElem_toArray, List.getElem_cons_succ, List.getElem_cons_zero]
        refine wpAnyT_pure (i := 3) (v := ?_) rfl (by kernel_rfl) (by kernel_rfl) (by kernel_rfl) (fun _ _ _ h => h) (by rfl) ?_ ?_
        rotate_left
        · intro w; go_simp; try with_reducible rfl
        simp only [Act.put, List.setIfInBounds_toArray, List.set_cons_zero, List.set_cons_succ, List.getElem_toArray, List.getElem_cons_succ, List.getElem_cons_zero]
        refine wpAnyT_pure (i := 4) (v := ?_) rfl (by kernel_rfl) (by kernel_rfl) (by kernel_rfl) (fun _ _ _ h => h) (by rfl) ?_ ?_
        rotate_left
        · intro w; go_simp; try with_reducible rfl
        simp only [Act.put, List.setIfInBounds_toArray, List.set_cons_zero, List.set_cons_succ, List.getElem_toArray, List.getElem_cons_succ, List.getElem_cons_zero]
        refine wpAnyT_pure (i := 5) (v := ?_) rfl (by kernel_rfl) (by kernel_rfl) (by kernel_rfl) (fun _ _ _ h => h) (by rfl) ?_ ?_
        rotate_left
        · intro w; go_simp; try with_reducible rfl
        simp only [Act.put, List.setIfInBounds_toArray, List.set_cons_zero, List.set_cons_succ, List.getElem_toArray, List.getElem_cons_succ, List.getElem_cons_zero]
        refine wpAnyT_loadW (i := 6) (v := ?_) rfl (by kernel_rfl) (by kernel_rfl) (by kernel_rfl) (by kernel_rfl) (by kernel_rfl) (fun _ _ _ h => h) (Or.inl ⟨by rfl, ?_⟩) hS0 ?_
        rotate_left
        · intro w hSw; obtain ⟨e0, e1, e2, e3, f0, f1, f2, f3, -⟩ := hSw; go_simp; try with_reducible rfl
        simp only [Act.put, List.setIfInBounds_toArray, List.set_cons_zero, List.set_cons_succ, List.getElem_toArray, List.getElem_cons_succ, List.getElem_cons_zero]
        refine wpAnyT_loadW (i := 7) (v := ?_) rfl (by kernel_rfl) (by kernel_rfl) (by kernel_rfl) (by kernel_rfl) (by kernel_rfl) (fun _ _ _ h => h) (Or.inl ⟨by rfl, ?_⟩) hS0 ?_
        rotate_left
        · intro w hSw; obtain ⟨e0, e1, e2, e3, f0, f1, f2, f3, -⟩ := hSw; go_simp; try with_reducible rfl
        simp only [Act.put, List.setIfInBounds_toArray, List.set_cons_zero, List.set_cons_succ, List.getElem_toArray, List.getElem_cons_succ, List.getElem_cons_zero]
        refine wpAnyT_one (i := 8) (by kernel_rfl) rfl (by rfl) ?_
        refine wp_enter (f := 25) (args := #[.agg #[.string xc, .int .i64 xk, .int .i64 xw, .int .i64 xv], .agg #[.string rc, .int .i64 rk, .int .i64 rw_, .int .i64 rv]]) (by go_simp) (HBX.out _) ?_
        rintro e x1 ⟨rfl, hX1⟩
        have hS1 := hS0.below hX1
        replace hX1 : Below wr.heap.size wr x1 := (below_drew wr).trans hX1
        have HO3 := Lib.hid (HO.out.below hX1)
        have HB3 := Lib.hid (HB.out.trans (hX1.mono (by omega)))
        refine ⟨_, rfl, fun _ _ => hS1, ?_⟩
        try simp only [Act.put, List.setIfInBounds_toArray, List.set_cons_zero, List.set_cons_succ, List.getElem_toArray, List.getElem_cons_succ, List.getElem_cons_zero]
        refine wpAnyT_pure (i := 9) (v := ?_) rfl (by kernel_rfl) (by kernel_rfl) (by kernel_rfl) (fun _ _ _ h => h) (by rfl) ?_ ?_
        rotate_left
        · intro w; go_simp; try with_reducible rfl
        simp only [Act.put, List.setIfInBounds_toArray, List.set_cons_zero, List.set_cons_succ, List.getElem_toArray, List.getElem_cons_succ, List.getElem_cons_zero]
        refine wpAnyT_pure (i := 10) (v := ?_) rfl (by kernel_rfl) (by kernel_rfl) (by kernel_rfl) (fun _ _ _ h => h) (by rfl) ?_ ?_
        rotate_left
        · intro w; go_simp; try with_reducible rfl
        simp only [Act.put, List.setIfInBounds_toArray, List.set_cons_zero, List.set_cons_succ, List.getElem_toArray, List.getElem_cons_succ, List.getElem_cons_zero]
        refine wpAnyT_done (by kernel_rfl) ?_ _
        clear hS0
        cases bb
        · skip
          have hS1x := hS1
          obtain ⟨k0, k1, k2, k3, q0, q1, q2, q3, -⟩ := hS1
          have HZL3 := HZL
          go_wp2_with (at_builtin; go_must (refine wpList_app _ rfl _ _ 22 rfl (e := rateT) (te := 35) info_rate Try.underlying22 rfl (by decide) (base := w.heap.size + 1) (S := fun _ => False) (v := .slice oa ol oc) (xs := zs) rfl (HO3.out.alloc _) (by have := HB3.out.size; simp only [World.size_alloc]; omega) rfl (ys := [D]) (Src.new _ [_, _, _, _] _ _ _) (RdL.one (e := rateT) (HRD.out _)) (by have := HZL3.out; simp only [List.length_append, List.length_cons, List.length_nil] at *; omega) (by have := HZL3.out; simp only [List.length_append, List.length_cons, List.length_nil] at *; omega) ?_; intro v' w2 O1 g1 _ ob1; obtain ⟨oa2, ol2, oc2, rfl, -⟩ := O1.slice; have HO2 := Lib.hid O1; have HBB2 := Lib.hid (((Below.refl (w.heap.size + 1) x1).alloc (by have := HB3.out.size; omega) _).grown g1 (by have := HB3.out.size; simp only [World.size_alloc]; omega) (fun c hc => (HO3.out.own c hc).1)); have HB2 := Lib.hid (HB3.out.trans HBB2.out); clear O1 g1 ob1))
          have hS2 := Cells.belowN HBB2.out hcl hS1x
          clear k0 k1 k2 k3 q0 q1 q2 q3 hS1x
          have HZL2 := Lib.hid (show (zs ++ [D]).length ≤ 2 * k + 1 ∧ k ≤ 1000000 by have := HZL.out; simp only [List.length_append, List.length_cons, List.length_nil]; omega)
          go_wp2_with fail
          have hSd := Cells.drew hS2
          refine wp_region_T (Cells [(⟨b, off + k * 4, none⟩, .string xc), (⟨b, off + k * 4 + 1, none⟩, .int .i64 xk), (⟨b, off + k * 4 + 2, none⟩, .int .i64 xw), (⟨b, off + k * 4 + 3, none⟩, .int .i64 xv), (⟨w.heap.size, 0, none⟩, .string rc), (⟨w.heap.size, 1, none⟩, .int .i64 rk), (⟨w.heap.size, 2, none⟩, .int .i64 rw_), (⟨w.heap.size, 3, none⟩, .int .i64 rv)]) (fun _ => false) (by kernel_rfl) ?_
          refine wpAnyT_pure (i := 0) (v := ?_) rfl (by kernel_rfl) (by kernel_rfl) (by kernel_rfl) (fun _ _ _ h => h) (by rfl) ?_ ?_
          rotate_left
          · intro w; go_simp; try with_reducible rfl
          simp only [Act.put, List.setIfInBounds_toArray, List.set_cons_zero, List.set_cons_succ, List.getElem_toArray, List.getElem_cons_succ, List.getElem_cons_zero]
          refine wpAnyT_pure (i := 1) (v := ?_) rfl (by kernel_rfl) (by kernel_rfl) (by kernel_rfl) (fun _ _ _ h => h) (by rfl) ?_ ?_
          rotate_left
          · intro w; go_simp; try with_reducible rfl
          simp only [Act.put, List.setIfInBounds_toArray, List.set_cons_zero, List.set_cons_succ, List.getElem_toArray, List.getElem_cons_succ, List.getElem_cons_zero]
          refine wpAnyT_pure (i := 2) (v := ?_) rfl (by kernel_rfl) (by kernel_rfl) (by kernel_rfl) (fun _ _ _ h => h) (by rfl) ?_ ?_
          rotate_left
          · intro w; go_simp; try with_reducible rfl
          simp only [Act.put, List.setIfInBounds_toArray, List.set_cons_zero, List.set_cons_succ, List.getElem_toArray, List.getElem_cons_succ, List.getElem_cons_zero]
          refine wpAnyT_loadW (i := 3) (v := ?_) rfl (by kernel_rfl) (by kernel_rfl) (by kernel_rfl) (by kernel_rfl) (by kernel_rfl) (fun _ _ _ h => h) (Or.inl ⟨by rfl, ?_⟩) hSd ?_
          rotate_left
          · intro w hSw; obtain ⟨e0, e1, e2, e3, f0, f1, f2, f3, -⟩ := hSw; go_simp; try with_reducible rfl
          simp only [Act.put, List.setIfInBounds_toArray, List.set_cons_zero, List.set_cons_succ, List.getElem_toArray, List.getElem_cons_succ, List.getElem_cons_zero]
          refine wpAnyT_loadW (i := 4) (v := ?_) rfl (by kernel_rfl) (by kernel_rfl) (by kernel_rfl) (by kernel_rfl) (by kernel_rfl) (fun _ _ _ h => h) (Or.inl ⟨by rfl, ?_⟩) hSd ?_
          rotate_left
          · intro w hSw; obtain ⟨e0, e1, e2, e3, f0, f1, f2, f3, -⟩ := hSw; go_simp; try with_reducible rfl
          simp only [Act.put, List.setIfInBounds_toArray, List.set_cons_zero, List.set_cons_succ, List.getElem_toArray, List.getElem_cons_succ, List.getElem_cons_zero]
          refine wpAnyT_one (i := 5) (by kernel_rfl) rfl (by rfl) ?_
          refine wp_enter (f := 20) (args := #[.agg #[.string xc, .int .i64 xk, .int .i64 xw, .int .i64 xv], .agg #[.string rc, .int .i64 rk, .int .i64 rw_, .int .i64 rv]]) (by go_simp) (HSX.out _) ?_
          rintro e y1 ⟨rfl, hY1⟩
          have hS4 := Cells.below hY1 hSd
          replace hY1 : Below (w2).heap.size (w2) y1 := (below_drew (w2)).trans hY1
          have HO4 := Lib.hid (HO2.out.below hY1)
          have HB4 := Lib.hid (HB2.out.trans (hY1.mono (by have := HB2.out.size; omega)))
          refine ⟨_, rfl, fun _ _ => hS4, ?_⟩
          try simp only [Act.put, List.setIfInBounds_toArray, List.set_cons_zero, List.set_cons_succ, List.getElem_toArray, List.getElem_cons_succ, List.getElem_cons_zero]
          refine wpAnyT_pure (i := 6) (v := ?_) rfl (by kernel_rfl) (by kernel_rfl) (by kernel_rfl) (fun _ _ _ h => h) (by rfl) ?_ ?_
          rotate_left
          · intro w; go_simp; try with_reducible rfl
          simp only [Act.put, List.setIfInBounds_toArray, List.set_cons_zero, List.set_cons_succ, List.getElem_toArray, List.getElem_cons_succ, List.getElem_cons_zero]
          refine wpAnyT_done (by kernel_rfl) ?_ _
          have HZL4 := HZL2
          obtain ⟨k0, k1, k2, k3, -⟩ := hS4
          cases ss
          · skip
            go_wp2_with (at_builtin; go_must (refine wpList_app _ rfl _ _ 22 rfl (e := rateT) (te := 35) info_rate Try.underlying22 rfl (by decide) (base := w.heap.size + 1) (S := fun _ => False) (v := .slice oa2 ol2 oc2) (xs := (zs ++ [D])) rfl (HO4.out.alloc _) (by have := HB4.out.size; simp only [World.size_alloc]; omega) rfl (ys := [x]) (Src.new _ [_, _, _, _] _ _ _) (RdL.one (e := rateT) (HRX.out _)) (by have := HZL4.out; simp only [List.length_append, List.length_cons, List.length_nil] at *; omega) (by have := HZL4.out; simp only [List.length_append, List.length_cons, List.length_nil] at *; omega) ?_; intro v' w5 O1 g1 _ ob1; obtain ⟨oa5, ol5, oc5, rfl, -⟩ := O1.slice; have HO5 := Lib.hid O1; have HBB5 := Lib.hid (((Below.refl (w.heap.size + 1) y1).alloc (by have := HB4.out.size; omega) _).grown g1 (by have := HB4.out.size; simp only [World.size_alloc]; omega) (fun c hc => (HO4.out.own c hc).1)); have HB5 := Lib.hid (HB4.out.trans HBB5.out); clear O1 g1 ob1))
            go_wp2
            go_roundw
            case rel => exact ⟨k + 1, oa5, ol5, oc5, (zs ++ [D]) ++ [x], true, HLT.out, by go_num, rfl, rfl, HN.out, by have := HZL4.out; rw [List.length_append]; simp only [List.length_cons, List.length_nil]; omega, HO5.out, HB5.out⟩
            case measure => have := HLT.out; simp [intOf]; omega
          · go_wp2
            go_roundw
            case rel => exact ⟨k + 1, oa2, ol2, oc2, (zs ++ [D]), true, HLT.out, by go_num, rfl, rfl, HN.out, by have := HZL4.out; omega, HO4.out, HB4.out⟩
            case measure => have := HLT.out; simp [intOf]; omega
        · skip
          have HZL3 := HZL
          go_wp2_with fail
          have hSd := Cells.drew hS1
          refine wp_region_T (Cells [(⟨b, off + k * 4, none⟩, .string xc), (⟨b, off + k * 4 + 1, none⟩, .int .i64 xk), (⟨b, off + k * 4 + 2, none⟩, .int .i64 xw), (⟨b, off + k * 4 + 3, none⟩, .int .i64 xv), (⟨w.heap.size, 0, none⟩, .string rc), (⟨w.heap.size, 1, none⟩, .int .i64 rk), (⟨w.heap.size, 2, none⟩, .int .i64 rw_), (⟨w.heap.size, 3, none⟩, .int .i64 rv)]) (fun _ => false) (by kernel_rfl) ?_
          refine wpAnyT_pure (i := 0) (v := ?_) rfl (by kernel_rfl) (by kernel_rfl) (by kernel_rfl) (fun _ _ _ h => h) (by rfl) ?_ ?_
          rotate_left
          · intro w; go_simp; try with_reducible rfl
          simp only [Act.put, List.setIfInBounds_toArray, List.set_cons_zero, List.set_cons_succ, List.getElem_toArray, List.getElem_cons_succ, List.getElem_cons_zero]
          refine wpAnyT_pure (i := 1) (v := ?_) rfl (by kernel_rfl) (by kernel_rfl) (by kernel_rfl) (fun _ _ _ h => h) (by rfl) ?_ ?_
          rotate_left
          · intro w; go_simp; try with_reducible rfl
          simp only [Act.put, List.setIfInBounds_toArray, List.set_cons_zero, List.set_cons_succ, List.getElem_toArray, List.getElem_cons_succ, List.getElem_cons_zero]
          refine wpAnyT_pure (i := 2) (v := ?_) rfl (by kernel_rfl) (by kernel_rfl) (by kernel_rfl) (fun _ _ _ h => h) (by rfl) ?_ ?_
          rotate_left
          · intro w; go_simp; try with_reducible rfl
          simp only [Act.put, List.setIfInBounds_toArray, List.set_cons_zero, List.set_cons_succ, List.getElem_toArray, List.getElem_cons_succ, List.getElem_cons_zero]
          refine wpAnyT_loadW (i := 3) (v := ?_) rfl (by kernel_rfl) (by kernel_rfl) (by kernel_rfl) (by kernel_rfl) (by kernel_rfl) (fun _ _ _ h => h) (Or.inl ⟨by rfl, ?_⟩) hSd ?_
          rotate_left
          · intro w hSw; obtain ⟨e0, e1, e2, e3, f0, f1, f2, f3, -⟩ := hSw; go_simp; try with_reducible rfl
          simp only [Act.put, List.setIfInBounds_toArray, List.set_cons_zero, List.set_cons_succ, List.getElem_toArray, List.getElem_cons_succ, List.getElem_cons_zero]
          refine wpAnyT_loadW (i := 4) (v := ?_) rfl (by kernel_rfl) (by kernel_rfl) (by kernel_rfl) (by kernel_rfl) (by kernel_rfl) (fun _ _ _ h => h) (Or.inl ⟨by rfl, ?_⟩) hSd ?_
          rotate_left
          · intro w hSw; obtain ⟨e0, e1, e2, e3, f0, f1, f2, f3, -⟩ := hSw; go_simp; try with_reducible rfl
          simp only [Act.put, List.setIfInBounds_toArray, List.set_cons_zero, List.set_cons_succ, List.getElem_toArray, List.getElem_cons_succ, List.getElem_cons_zero]
          refine wpAnyT_one (i := 5) (by kernel_rfl) rfl (by rfl) ?_
          refine wp_enter (f := 20) (args := #[.agg #[.string xc, .int .i64 xk, .int .i64 xw, .int .i64 xv], .agg #[.string rc, .int .i64 rk, .int .i64 rw_, .int .i64 rv]]) (by go_simp) (HSX.out _) ?_
          rintro e y1 ⟨rfl, hY1⟩
          have hS4 := Cells.below hY1 hSd
          replace hY1 : Below (x1).heap.size (x1) y1 := (below_drew (x1)).trans hY1
          have HO4 := Lib.hid (HO3.out.below hY1)
          have HB4 := Lib.hid (HB3.out.trans (hY1.mono (by have := HB3.out.size; omega)))
          refine ⟨_, rfl, fun _ _ => hS4, ?_⟩
          try simp only [Act.put, List.setIfInBounds_toArray, List.set_cons_zero, List.set_cons_succ, List.getElem_toArray, List.getElem_cons_succ, List.getElem_cons_zero]
          refine wpAnyT_pure (i := 6) (v := ?_) rfl (by kernel_rfl) (by kernel_rfl) (by kernel_rfl) (fun _ _ _ h => h) (by rfl) ?_ ?_
          rotate_left
          · intro w; go_simp; try with_reducible rfl
          simp only [Act.put, List.setIfInBounds_toArray, List.set_cons_zero, List.set_cons_succ, List.getElem_toArray, List.getElem_cons_succ, List.getElem_cons_zero]
          refine wpAnyT_done (by kernel_rfl) ?_ _
          have HZL4 := HZL3
          obtain ⟨k0, k1, k2, k3, -⟩ := hS4
          cases ss
          · skip
            go_wp2_with (at_builtin; go_must (refine wpList_app _ rfl _ _ 22 rfl (e := rateT) (te := 35) info_rate Try.underlying22 rfl (by decide) (base := w.heap.size + 1) (S := fun _ => False) (v := .slice oa ol oc) (xs := zs) rfl (HO4.out.alloc _) (by have := HB4.out.size; simp only [World.size_alloc]; omega) rfl (ys := [x]) (Src.new _ [_, _, _, _] _ _ _) (RdL.one (e := rateT) (HRX.out _)) (by have := HZL4.out; simp only [List.length_append, List.length_cons, List.length_nil] at *; omega) (by have := HZL4.out; simp only [List.length_append, List.length_cons, List.length_nil] at *; omega) ?_; intro v' w5 O1 g1 _ ob1; obtain ⟨oa5, ol5, oc5, rfl, -⟩ := O1.slice; have HO5 := Lib.hid O1; have HBB5 := Lib.hid (((Below.refl (w.heap.size + 1) y1).alloc (by have := HB4.out.size; omega) _).grown g1 (by have := HB4.out.size; simp only [World.size_alloc]; omega) (fun c hc => (HO4.out.own c hc).1)); have HB5 := Lib.hid (HB4.out.trans HBB5.out); clear O1 g1 ob1))
            go_wp2
            go_roundw
            case rel => exact ⟨k + 1, oa5, ol5, oc5, zs ++ [x], false, HLT.out, by go_num, rfl, rfl, HN.out, by have := HZL4.out; rw [List.length_append]; simp only [List.length_cons, List.length_nil]; omega, HO5.out, HB5.out⟩
            case measure => have := HLT.out; simp [intOf]; omega
          · go_wp2
            go_roundw
            case rel => exact ⟨k + 1, oa, ol, oc, zs, false, HLT.out, by go_num, rfl, rfl, HN.out, by have := HZL4.out; omega, HO4.out, HB4.out⟩
            case measure => have := HLT.out; simp [intOf]; omega
      · go_wp2_with fail
        refine wp_region_T (Cells [(⟨b, off + k * 4, none⟩, .string xc), (⟨b, off + k * 4 + 1, none⟩, .int .i64 xk), (⟨b, off + k * 4 + 2, none⟩, .int .i64 xw), (⟨b, off + k * 4 + 3, none⟩, .int .i64 xv), (⟨w.heap.size, 0, none⟩, .string rc), (⟨w.heap.size, 1, none⟩, .int .i64 rk), (⟨w.heap.size, 2, none⟩, .int .i64 rw_), (⟨w.heap.size, 3, none⟩, .int .i64 rv)]) (fun _ => false) (by kernel_rfl) ?_
        refine wpAnyT_pure (i := 0) (v := ?_) rfl (by kernel_rfl) (by kernel_rfl) (by kernel_rfl) (fun _ _ _ h => h) (by rfl) ?_ ?_
        rotate_left
        · intro w; go_simp; try with_reducible rfl
        simp only [Act.put, List.setIfInBounds_toArray, List.set_cons_zero, List.set_cons_succ, List.getElem_toArray, List.getElem_cons_succ, List.getElem_cons_zero]
        refine wpAnyT_pure (i := 1) (v := ?_) rfl (by kernel_rfl) (by kernel_rfl) (by kernel_rfl) (fun _ _ _ h => h) (by rfl) ?_ ?_
        rotate_left
        · intro w; go_simp; try with_reducible rfl
        simp only [Act.put, List.setIfInBounds_toArray, List.set_cons_zero, List.set_cons_succ, List.getElem_toArray, List.getElem_cons_succ, List.getElem_cons_zero]
        refine wpAnyT_pure (i := 2) (v := ?_) rfl (by kernel_rfl) (by kernel_rfl) (by kernel_rfl) (fun _ _ _ h => h) (by rfl) ?_ ?_
        rotate_left
        · intro w; go_simp; try with_reducible rfl
        simp only [Act.put, List.setIfInBounds_toArray, List.set_cons_zero, List.set_cons_succ, List.getElem_toArray, List.getElem_cons_succ, List.getElem_cons_zero]
        refine wpAnyT_skip (i := 3) rfl (by kernel_rfl) (by kernel_rfl) (by kernel_rfl) (fun _ _ _ h => h) (by rfl) ?_
        simp only [Act.put, List.setIfInBounds_toArray, List.set_cons_zero, List.set_cons_succ, List.getElem_toArray, List.getElem_cons_succ, List.getElem_cons_zero]
        refine wpAnyT_skip (i := 4) rfl (by kernel_rfl) (by kernel_rfl) (by kernel_rfl) (fun _ _ _ h => h) (by rfl) ?_
        simp only [Act.put, List.setIfInBounds_toArray, List.set_cons_zero, List.set_cons_succ, List.getElem_toArray, List.getElem_cons_succ, List.getElem_cons_zero]
        refine wpAnyT_skip (i := 5) rfl (by kernel_rfl) (by kernel_rfl) (by kernel_rfl) (fun _ _ _ h => h) (by rfl) ?_
        simp only [Act.put, List.setIfInBounds_toArray, List.set_cons_zero, List.set_cons_succ, List.getElem_toArray, List.getElem_cons_succ, List.getElem_cons_zero]
        refine wpAnyT_skip (i := 6) rfl (by kernel_rfl) (by kernel_rfl) (by kernel_rfl) (fun _ _ _ h => h) (by rfl) ?_
        simp only [Act.put, List.setIfInBounds_toArray, List.set_cons_zero, List.set_cons_succ, List.getElem_toArray, List.getElem_cons_succ, List.getElem_cons_zero]
        refine wpAnyT_skip (i := 7) rfl (by kernel_rfl) (by kernel_rfl) (by kernel_rfl) (fun _ _ _ h => h) (by rfl) ?_
        simp only [Act.put, List.setIfInBounds_toArray, List.set_cons_zero, List.set_cons_succ, List.getElem_toArray, List.getElem_cons_succ, List.getElem_cons_zero]
        refine wpAnyT_skip (i := 8) rfl (by kernel_rfl) (by kernel_rfl) (by kernel_rfl) (fun _ _ _ h => h) (by rfl) ?_
        simp only [Act.put, List.setIfInBounds_toArray, List.set_cons_zero, List.set_cons_succ, List.getElem_toArray, List.getElem_cons_succ, List.getElem_cons_zero]
        refine wpAnyT_skip (i := 9) rfl (by kernel_rfl) (by kernel_rfl) (by kernel_rfl) (fun _ _ _ h => h) (by rfl) ?_
        simp only [Act.put, List.setIfInBounds_toArray, List.set_cons_zero, List.set_cons_succ, List.getElem_toArray, List.getElem_cons_succ, List.getElem_cons_zero]
        refine wpAnyT_pure (i := 10) (v := ?_) rfl (by kernel_rfl) (by kernel_rfl) (by kernel_rfl) (fun _ _ _ h => h) (by rfl) ?_ ?_
        rotate_left
        · intro w; go_simp; try with_reducible rfl
        simp only [Act.put, List.setIfInBounds_toArray, List.set_cons_zero, List.set_cons_succ, List.getElem_toArray, List.getElem_cons_succ, List.getElem_cons_zero]
        refine wpAnyT_done (by kernel_rfl) ?_ _
        have hS1 := hS0
        clear hS0
        have HO3 := Lib.hid HO.out.drew
        have HB3 := Lib.hid (HB.out.trans ((below_drew wr).mono (by omega)))
        skip
        have HZL3 := HZL
        go_wp2_with fail
        have hSd := Cells.drew hS1
        refine wp_region_T (Cells [(⟨b, off + k * 4, none⟩, .string xc), (⟨b, off + k * 4 + 1, none⟩, .int .i64 xk), (⟨b, off + k * 4 + 2, none⟩, .int .i64 xw), (⟨b, off + k * 4 + 3, none⟩, .int .i64 xv), (⟨w.heap.size, 0, none⟩, .string rc), (⟨w.heap.size, 1, none⟩, .int .i64 rk), (⟨w.heap.size, 2, none⟩, .int .i64 rw_), (⟨w.heap.size, 3, none⟩, .int .i64 rv)]) (fun _ => false) (by kernel_rfl) ?_
        refine wpAnyT_pure (i := 0) (v := ?_) rfl (by kernel_rfl) (by kernel_rfl) (by kernel_rfl) (fun _ _ _ h => h) (by rfl) ?_ ?_
        rotate_left
        · intro w; go_simp; try with_reducible rfl
        simp only [Act.put, List.setIfInBounds_toArray, List.set_cons_zero, List.set_cons_succ, List.getElem_toArray, List.getElem_cons_succ, List.getElem_cons_zero]
        refine wpAnyT_pure (i := 1) (v := ?_) rfl (by kernel_rfl) (by kernel_rfl) (by kernel_rfl) (fun _ _ _ h => h) (by rfl) ?_ ?_
        rotate_left
        · intro w; go_simp; try with_reducible rfl
        simp only [Act.put, List.setIfInBounds_toArray, List.set_cons_zero, List.set_cons_succ, List.getElem_toArray, List.getElem_cons_succ, List.getElem_cons_zero]
        refine wpAnyT_pure (i := 2) (v := ?_) rfl (by kernel_rfl) (by kernel_rfl) (by kernel_rfl) (fun _ _ _ h => h) (by rfl) ?_ ?_
        rotate_left
        · intro w; go_simp; try with_reducible rfl
        simp only [Act.put, List.setIfInBounds_toArray, List.set_cons_zero, List.set_cons_succ, List.getElem_toArray, List.getElem_cons_succ, List.getElem_cons_zero]
        refine wpAnyT_loadW (i := 3) (v := ?_) rfl (by kernel_rfl) (by kernel_rfl) (by kernel_rfl) (by kernel_rfl) (by kernel_rfl) (fun _ _ _ h => h) (Or.inl ⟨by rfl, ?_⟩) hSd ?_
        rotate_left
        · intro w hSw; obtain ⟨e0, e1, e2, e3, f0, f1, f2, f3, -⟩ := hSw; go_simp; try with_reducible rfl
        simp only [Act.put, List.setIfInBounds_toArray, List.set_cons_zero, List.set_cons_succ, List.getElem_toArray, List.getElem_cons_succ, List.getElem_cons_zero]
        refine wpAnyT_loadW (i := 4) (v := ?_) rfl (by kernel_rfl) (by kernel_rfl) (by kernel_rfl) (by kernel_rfl) (by kernel_rfl) (fun _ _ _ h => h) (Or.inl ⟨by rfl, ?_⟩) hSd ?_
        rotate_left
        · intro w hSw; obtain ⟨e0, e1, e2, e3, f0, f1, f2, f3, -⟩ := hSw; go_simp; try with_reducible rfl
        simp only [Act.put, List.setIfInBounds_toArray, List.set_cons_zero, List.set_cons_succ, List.getElem_toArray, List.getElem_cons_succ, List.getElem_cons_zero]
        refine wpAnyT_one (i := 5) (by kernel_rfl) rfl (by rfl) ?_
        refine wp_enter (f := 20) (args := #[.agg #[.string xc, .int .i64 xk, .int .i64 xw, .int .i64 xv], .agg #[.string rc, .int .i64 rk, .int .i64 rw_, .int .i64 rv]]) (by go_simp) (HSX.out _) ?_
        rintro e y1 ⟨rfl, hY1⟩
        have hS4 := Cells.below hY1 hSd
        replace hY1 : Below (wr.drew).heap.size (wr.drew) y1 := (below_drew (wr.drew)).trans hY1
        have HO4 := Lib.hid (HO3.out.below hY1)
        have HB4 := Lib.hid (HB3.out.trans (hY1.mono (by have := HB3.out.size; omega)))
        refine ⟨_, rfl, fun _ _ => hS4, ?_⟩
        try simp only [Act.put, List.setIfInBounds_toArray, List.set_cons_zero, List.set_cons_succ, List.getElem_toArray, List.getElem_cons_succ, List.getElem_cons_zero]
        refine wpAnyT_pure (i := 6) (v := ?_) rfl (by kernel_rfl) (by kernel_rfl) (by kernel_rfl) (fun _ _ _ h => h) (by rfl) ?_ ?_
        rotate_left
        · intro w; go_simp; try with_reducible rfl
        simp only [Act.put, List.setIfInBounds_toArray, List.set_cons_zero, List.set_cons_succ, List.getElem_toArray, List.getElem_cons_succ, List.getElem_cons_zero]
        refine wpAnyT_done (by kernel_rfl) ?_ _
        have HZL4 := HZL3
        obtain ⟨k0, k1, k2, k3, -⟩ := hS4
        cases ss
        · skip
          go_wp2_with (at_builtin; go_must (refine wpList_app _ rfl _ _ 22 rfl (e := rateT) (te := 35) info_rate Try.underlying22 rfl (by decide) (base := w.heap.size + 1) (S := fun _ => False) (v := .slice oa ol oc) (xs := zs) rfl (HO4.out.alloc _) (by have := HB4.out.size; simp only [World.size_alloc]; omega) rfl (ys := [x]) (Src.new _ [_, _, _, _] _ _ _) (RdL.one (e := rateT) (HRX.out _)) (by have := HZL4.out; simp only [List.length_append, List.length_cons, List.length_nil] at *; omega) (by have := HZL4.out; simp only [List.length_append, List.length_cons, List.length_nil] at *; omega) ?_; intro v' w5 O1 g1 _ ob1; obtain ⟨oa5, ol5, oc5, rfl, -⟩ := O1.slice; have HO5 := Lib.hid O1; have HBB5 := Lib.hid (((Below.refl (w.heap.size + 1) y1).alloc (by have := HB4.out.size; omega) _).grown g1 (by have := HB4.out.size; simp only [World.size_alloc]; omega) (fun c hc => (HO4.out.own c hc).1)); have HB5 := Lib.hid (HB4.out.trans HBB5.out); clear O1 g1 ob1))
          go_wp2
          go_roundw
          case rel => exact ⟨k + 1, oa5, ol5, oc5, zs ++ [x], true, HLT.out, by go_num, rfl, rfl, HN.out, by have := HZL4.out; rw [List.length_append]; simp only [List.length_cons, List.length_nil]; omega, HO5.out, HB5.out⟩
          case measure => have := HLT.out; simp [intOf]; omega
        · go_wp2
          go_roundw
          case rel => exact ⟨k + 1, oa, ol, oc, zs, true, HLT.out, by go_num, rfl, rfl, HN.out, by have := HZL4.out; omega, HO4.out, HB4.out⟩
          case measure => have := HLT.out; simp [intOf]; omega
    · obtain rfl : k = len := by omega
      have hv := HFIN.out zs dn (by rw [← HZ.out, List.take_of_length_le (by rw [HL.out]; exact Nat.le_refl _)])
      have HVV := Lib.hid hv
      clear hv
      have hhr := (HB.out.block _ (by omega)).trans hh
      obtain ⟨q0, q1, q2, q3⟩ := rate_blk hhr
      cases dn
      · skip
        go_wp2_with (at_builtin; go_must (refine wpList_app _ rfl _ _ 22 rfl (e := rateT) (te := 35) info_rate Try.underlying22 rfl (by decide) (base := w.heap.size + 1) (S := fun _ => False) (v := .slice oa ol oc) (xs := zs) rfl (HO.out.alloc _) (by have := HB.out.size; simp only [World.size_alloc]; omega) rfl (ys := [D]) (Src.new _ [_, _, _, _] _ _ _) (RdL.one (e := rateT) (HRD.out _)) (by have := HZL.out; simp only [List.length_append, List.length_cons, List.length_nil] at *; omega) (by have := HZL.out; simp only [List.length_append, List.length_cons, List.length_nil] at *; omega) ?_; intro v' w2 O1 g1 _ ob1; obtain ⟨oa2, ol2, oc2, rfl, -⟩ := O1.slice; have HO2 := Lib.hid O1; have HBB2 := Lib.hid (((Below.refl (w.heap.size + 1) wr).alloc (by have := HB.out.size; omega) _).grown g1 (by have := HB.out.size; simp only [World.size_alloc]; omega) (fun c hc => (HO.out.own c hc).1)); have HB2 := Lib.hid (HB.out.trans HBB2.out); clear O1 g1 ob1))
        go_wp2
        go_ret
        have e := HVV.out
        simp only [if_true] at e
        exact ⟨_, rfl, hB1.trans (HB2.out.mono (by omega)), by rw [e]; exact HO2.out.base (by omega)⟩
      · go_wp2
        go_ret
        have e := HVV.out
        simp only [Bool.true_eq_false, if_false] at e
        exact ⟨_, rfl, hB1.trans (HB.out.mono (by omega)), by rw [e]; exact HO.out.base (by omega)⟩
end Go.Proofs.Ytmlekhkgokgpbaa
