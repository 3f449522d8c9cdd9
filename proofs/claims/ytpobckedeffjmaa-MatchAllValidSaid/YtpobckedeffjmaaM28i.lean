/- Layer 28: the subsets come out, one by one. -/
import Derived.Test.YtpobckedeffjmaaIterL
set_option linter.unusedSimpArgs false
set_option maxRecDepth 50000
namespace Go.Proofs.Ytpobckedeffjmaa
open Go.RowKit Go
attribute [local go_sem] Oper.semAt_some

def encN (m : Nat) : Array Value := #[.int .u64 (m : Int)]
/-- The masks below m with n bits. -/
def popM (n m : Nat) : List Nat := (List.range m).filter fun x => popc x == n
theorem popM_succ (n m : Nat) : popM n (m + 1) = if popc m = n then popM n m ++ [m] else popM n m := by
  unfold popM
  rw [List.range_succ, List.filter_append]
  by_cases h : popc m = n
  · simp [h]
  · simp [h]
theorem popM_all (k n : Nat) : popM n (2 ^ k) = popL k n := rfl
theorem popM_len (n m : Nat) : (popM n m).length ≤ m := by
  unfold popM
  exact Nat.le_trans (List.length_filter_le _ _) (by simp)
/-- The masks of 2 .. n - 1 places. -/
def subsN (k n : Nat) : List Nat := (List.range' 2 (n - 2)).flatMap (masksK k)
def subsL (k : Nat) : List Nat := subsN k (k + 1)
theorem subsN_succ (k n : Nat) (h : 2 ≤ n) : subsN k (n + 1) = subsN k n ++ masksK k n := by
  unfold subsN
  rw [show n + 1 - 2 = (n - 2) + 1 from by omega, List.range'_concat, List.flatMap_append]
  simp only [List.flatMap_cons, List.flatMap_nil, List.append_nil, show 2 + 1 * (n - 2) = n from by omega]
theorem subsL_split {k n : Nat} (h2 : 2 ≤ n) (hn : n ≤ k) : ∃ rest, subsL k = subsN k n ++ masksK k n ++ rest := by
  have : ∀ d, ∃ rest, subsN k (n + 1 + d) = subsN k n ++ masksK k n ++ rest := by
    intro d
    induction d with
    | zero => exact ⟨[], by rw [Nat.add_zero, subsN_succ k n h2, List.append_nil]⟩
    | succ d ih =>
      obtain ⟨r, hr⟩ := ih
      exact ⟨r ++ masksK k (n + 1 + d), by rw [← Nat.add_assoc, subsN_succ k _ (by omega), hr, List.append_assoc]⟩
  obtain ⟨r, hr⟩ := this (k - n)
  exact ⟨r, by unfold subsL; rw [← hr]; congr 1; omega⟩
theorem shl_two (k : Nat) (hk : k ≤ 12) (w : World) : 2 ^ k ≤ 4096 := Nat.pow_le_pow_right (by decide) hk

theorem Gr.of_belowB {B D : Nat} {w w' : World} (h : Below B w w') (hD : D ≤ B) : Gr (fun b => D ≤ b) w w' := ⟨h.os, h.tape, h.output, h.size, fun k hk hf => h.block k (by omega)⟩
theorem info_uint : (Try.prog.info? 105).map (fun i => (i.zero, i.size, i.bytes)) = some (some (.int .u64 0), 1, 8) := by kernel_rfl
theorem KC.cell {W W' : World} (h : KC W W') {a : Addr} {i : Int} (hc : W.cell? a = some (.int .i64 i)) : W'.cell? a = some (.int .i64 i) := by
  have hb : W'.heap[a.block]? = W.heap[a.block]? := by
    unfold World.cell? at hc
    cases ho : W.heap[a.block]? with
    | none => simp [ho] at hc
    | some o =>
      refine h.2 _ _ ho ?_
      cases o <;> simp_all [Obj.isCells]
  rw [← hc]
  unfold World.cell?
  simp only [hb]
theorem KC.blk {W W' : World} (h : KC W W') {a : Addr} {v : Value} (hc : W.cell? a = some v) : W'.heap[a.block]? = W.heap[a.block]? := by
  unfold World.cell? at hc
  cases ho : W.heap[a.block]? with
  | none => simp [ho] at hc
  | some o =>
    refine h.2 _ _ ho ?_
    cases o <;> simp_all [Obj.isCells]
theorem SlM.kc {base : Nat} {w w' : World} {v : Value} {l : List Nat} (h : SlM base w v l) (hw : KC w w') : SlM base w' v l := by
  rcases h with h | ⟨g, cap, rfl, h1, h2, h3, h4, h5⟩
  · exact .inl h
  · refine .inr ⟨g, cap, rfl, h1, Nat.lt_of_lt_of_le h2 hw.1, h3, h4, fun i hi => ?_⟩
    have hg := hw.blk (h5 i hi)
    rw [← h5 i hi]
    unfold World.cell?
    simp only at hg
    simp only [hg]
set_option maxHeartbeats 4000000 in
theorem subs28 (w : World) (Bk k : Nat) (hk : k ≤ 12) (hc : w.cell? ⟨Bk, 0, none⟩ = some (.int .i64 (k : Int))) :
    IterL Try.prog 50 #[.pointer (some ⟨Bk, 0, none⟩)] encN (subsL k) w := by
  intro n l J Jx W hn hW hJ hY h0
  have hcW : W.cell? ⟨Bk, 0, none⟩ = some (.int .i64 (k : Int)) := (hW.cell (p := ⟨Bk, 0, none⟩) (World.block_lt_of_cell? w ⟨Bk, 0, none⟩ hc)).trans hc
  have HCW := Lib.hid hcW
  have HY := Lib.hid hY
  have HJ := Lib.hid hJ
  have HK := Lib.hid hk
  have HWJ := Lib.hid h0
  clear hY hJ hc hW h0 hcW
  refine callsIn_of_wp Try.func50 rfl trivial ?_ rfl
  simp only [Try.ntmps50, List.size_toArray, List.length_cons, List.length_nil, Nat.reduceAdd, Nat.reduceSub, Array.replicate_succ, Array.replicate_zero, List.push_toArray, List.append_toArray, List.nil_append, List.cons_append]
  gi_wp2_with gi_in
  gi_loopw [3] (fun iv wr => ∃ (q : Nat), 2 ≤ q ∧ (q ≤ k + 1 ∨ q = 2) ∧ iv = .int .i64 (q : Int) ∧ J (subsN k q) wr ∧ KC W wr) (fun iv _ => k + 1 - (intOf iv).toNat)
  case atStart => exact ⟨2, Nat.le_refl _, .inr rfl, rfl, HWJ.out, ⟨Nat.le_refl _, fun _ _ h _ => h⟩⟩
  case round =>
    obtain ⟨q, hq2, hqk, rfl, hJq, hKC⟩ := hrel
    have hcr : wr.cell? ⟨Bk, 0, none⟩ = some (.int .i64 (k : Int)) := hKC.cell HCW.out
    have HCR := Lib.hid hcr
    have HKC := Lib.hid hKC
    have HJQ := Lib.hid hJq
    have HQ2 := Lib.hid hq2
    have HQK := Lib.hid hqk
    clear hKC hJq
    by_cases hlt : q ≤ k
    case neg =>
      have hI : ¬ (q : Int) ≤ (k : Int) := by omega
      gi_wp2_with gi_in
      go_end0
      refine ⟨⟨_, rfl⟩, .inl ?_⟩
      by_cases e : q = k + 1
      · subst e; exact HJQ.out
      · have e2 : q = 2 := by omega
        have e3 : subsL k = subsN k q := by unfold subsL subsN; rw [show k + 1 - 2 = 0 from by omega, show q - 2 = 0 from by omega]
        rw [e3]; exact HJQ.out
    have hI : (q : Int) ≤ (k : Int) := by omega
    clear hqk
    gi_wp2_with gi_in
    obtain ⟨P, hP⟩ : ∃ P : Nat, P = 2 ^ k := ⟨_, rfl⟩
    have hP4 : P ≤ 4096 := by rw [hP]; exact shl_two k HK.out w
    rw [show IntKind.u64.wrap (2 ^ k) = (P : Int) from by rw [show ((2 : Int) ^ k) = ((P : Nat) : Int) from by rw [hP]; simp]; rw [IntKind.wrap_u64, Int.emod_eq_of_lt] <;> omega]
    have HP := Lib.hid hP
    have HP4 := Lib.hid hP4
    clear hP hcr
    have HLT := Lib.hid hlt
    clear hlt
    generalize hW0 : wr = w0 at *
    clear hW0
    gi_loopw [4, 15] (fun v iv wr => ∃ (m : Nat), m ≤ P ∧ iv = .int .u64 (m : Int) ∧ Owns (.int .u64) 105 w0.heap.size (fun _ => False) wr v ((popM q m).map fun m : Nat => (m : Int)) ∧ Below w0.heap.size w0 wr) (fun _ iv _ => P - (intOf iv).toNat)
    case atStart => exact ⟨0, Nat.zero_le _, rfl, Owns.nil _ _ _ _, Below.refl _ _⟩
    case round =>
      obtain ⟨m, hm, rfl, hO, hB⟩ := hrel
      have HB := Lib.hid hB
      have HO := Lib.hid hO
      obtain ⟨av, lv, cv, rfl, hlv, -⟩ := hO.slice
      rw [List.length_map] at hlv
      have HLV := Lib.hid hlv
      clear hB hO hlv
      by_cases hmP : m < P
      · have hmI : (m : Int) < (P : Int) := by omega
        have h1 := chk1_at (n := m) (by omega)
        have HPC := Lib.hid h1.1
        have HMP := Lib.hid hmP
        clear h1 hm
        by_cases hpc : popc m = q
        · have HPE := Lib.hid (show popI (m : Int) = (q : Int) from by rw [HPC.out, hpc])
          have HPS := Lib.hid (show popM q (m + 1) = popM q m ++ [m] from by rw [popM_succ, if_pos hpc])
          clear hpc hmP HPC
          gi_wp2_with (first | (refine And.intro (a := Fence.wide.fn _) trivial ?_; gi_at_call 51; go_must (refine (callsIn_wide.2 (ones28 _ _)).mono ?_); rintro e w9 ⟨rfl, rfl⟩; rw [HPE.out]) | (gi_at_builtin; have hq := HO; clear hq; go_must (refine wpListIn_app _ rfl _ _ 118 rfl (e := .int .u64) info_uint Try.underlying118 rfl (by decide) (v := .slice av lv cv) rfl (Owns.alloc HO.out _) (by have := HB.out.size; simp only [World.size_alloc]; omega) rfl (ys := [(m : Int)]) (Src.new _ [_] _ _ _) (RdL.int1 (wf_u64' (by omega) (by omega))) (by have := popM_len q m; simp only [List.length_map, List.length_cons, List.length_nil]; omega) (by have := popM_len q m; simp only [List.length_map, List.length_cons, List.length_nil]; omega) ?_); intro v' w1 O1 g1 _ hob; have HO1 := Lib.hid O1; have HG1 := Lib.hid g1; clear O1 g1 hob) | gi_in)
          have hB1 : Below w0.heap.size w0 w1 := (HB.out.alloc HB.out.size (.cells #[.int .u64 (m : Int)] 105)).grown HG1.out (by have := HB.out.size; simp only [World.size_alloc]; omega) (fun c hc => (HO.out.own c hc).1)
          refine ⟨⟨m + 1, HMP.out, by simp, ?_, hB1⟩, ?_⟩
          · rw [HPS.out, List.map_append]; exact HO1.out
          · have := HMP.out; simp only [intOf]; omega
        · have HPE : ¬ popI (m : Int) = (q : Int) := by rw [HPC.out]; omega
          have HPS := Lib.hid (show popM q (m + 1) = popM q m from by rw [popM_succ, if_neg hpc])
          clear hpc hmP HPC
          gi_wp2_with (refine And.intro (a := Fence.wide.fn _) trivial ?_; gi_at_call 51; go_must (refine (callsIn_wide.2 (ones28 _ _)).mono ?_); rintro e w9 ⟨rfl, rfl⟩)
          refine ⟨⟨m + 1, HMP.out, by simp, ?_, HB.out⟩, ?_⟩
          · rw [HPS.out]; exact HO.out
          · have := HMP.out; simp only [intOf]; omega
      · have hmI : ¬ (m : Int) < (P : Int) := by omega
        obtain rfl : m = P := by omega
        have HO3 := Lib.hid (show Owns (.int .u64) 105 w0.heap.size (fun _ => False) wr (.slice av lv cv) ((popL k q).map fun m : Nat => (m : Int)) from by rw [← popM_all, ← HP.out]; exact HO.out)
        clear HO HLV hmP hm
        gi_wp2_with (refine And.intro (a := Fence.wide.fn _) trivial ?_; gi_at_call 52; go_must (refine (callsIn_wide.2 (sortM28 _ _ k q HK.out (Nat.le_trans HLT.out HK.out) HO3.out (by first | exact HB.out.size | exact Nat.le_refl _))).mono ?_); rintro e w9 ⟨rfl, hSM, hB9⟩; have HSM := Lib.hid hSM; have HB9 := Lib.hid hB9; clear hSM hB9)
        have hJ9 : J (subsN k q) w9 := HJ.out _ _ _ HJQ.out (Gr.of_belowB (HB.out.trans HB9.out) HKC.out.1)
        have hlm : lv = (masksK k q).length := by
          obtain ⟨a0, c0, e0⟩ := HSM.out.form
          cases e0; rfl
        have HK9 := Lib.hid (show KC W w9 from HKC.out.trans (KC.of_below (HB.out.trans HB9.out)))
        obtain ⟨rest0, hrest⟩ := subsL_split (k := k) HQ2.out HLT.out
        have HREST := Lib.hid hrest
        have HSN := Lib.hid (subsN_succ k q HQ2.out)
        have hjs : J (subsN k q ++ (masksK k q).take 0) w9 := by rw [List.take_zero, List.append_nil]; exact hJ9
        have HJ9 := Lib.hid hjs
        have HLM := Lib.hid hlm
        have hlv4 : lv ≤ 4096 := by
          rw [hlm, (masks_perm HK.out (Nat.le_trans HLT.out HK.out)).length_eq, ← popM_all]
          exact Nat.le_trans (popM_len _ _) (shl_two k HK.out w)
        clear hJ9 hlm hrest hjs HJQ HO3
        gi_loopw [31] (fun iv wr => ∃ (j : Nat), j ≤ lv ∧ iv = .int .i64 (j : Int) ∧ J (subsN k q ++ (masksK k q).take j) wr ∧ KC w9 wr) (fun iv _ => lv - (intOf iv).toNat)
        case atStart => exact ⟨0, Nat.zero_le _, rfl, HJ9.out, ⟨Nat.le_refl _, fun _ _ h _ => h⟩⟩
        case round =>
          obtain ⟨j, hj, rfl, hJj, hKj⟩ := hrel
          have HJJ := Lib.hid hJj
          have HKJ := Lib.hid hKj
          clear hJj hKj
          by_cases hjl : j < lv
          · have hjI : (j : Int) < (lv : Int) := by omega
            have hjm : j < (masksK k q).length := by rw [← HLM.out]; exact hjl
            obtain ⟨g, rfl, hbg, hgw, hcm⟩ := (show SlM w0.heap.size wr (.slice av (masksK k q).length cv) (masksK k q) from by rw [← HLM.out]; exact HSM.out.kc HKJ.out).cell j hjm
            have HTK := Lib.hid (List.take_succ_eq_append_getElem hjm)
            have HDR := Lib.hid (List.drop_eq_getElem_cons hjm)
            generalize (masksK k q)[j] = mk at hcm HTK HDR
            have HSP := Lib.hid (show subsL k = (subsN k q ++ (masksK k q).take j) ++ mk :: ((masksK k q).drop (j + 1) ++ rest0) from by
              rw [HREST.out, List.append_assoc, List.append_assoc]
              congr 1
              rw [← List.cons_append, ← HDR.out, ← List.append_assoc, List.take_append_drop])
            obtain ⟨fn, tmps, assign, body, hy, hR⟩ := HY.out (subsN k q ++ (masksK k q).take j) mk ((masksK k q).drop (j + 1) ++ rest0) wr HSP.out HJJ.out
            unfold encN at hy
            have HLT2 := Lib.hid hjl
            clear hjl hj hjm hbg hgw
            gi_wp2
            refine hR.mono ?_
            rintro e W3 (⟨rfl, hJ3, hk3⟩ | ⟨rfl, hJx3⟩)
            · have HJ3 := Lib.hid hJ3
              have HK3 := Lib.hid hk3
              have hjv : j < lv := HLT2.out
              clear hJ3 hk3
              gi_wp2
              refine ⟨⟨j + 1, HLT2.out, by simp, ?_, HKJ.out.trans HK3.out⟩, ?_⟩
              · rw [HTK.out, ← List.append_assoc]; exact HJ3.out
              · have := HLT2.out; simp only [intOf]; omega
            · have HJX := Lib.hid hJx3
              clear hJx3
              gi_wp2
              refine bodyPost_ret (results_none rfl _ _ _) rfl ?_
              exact ⟨⟨_, rfl⟩, .inr ⟨_, _, _, HSP.out, HJX.out⟩⟩
          · have hjI : ¬ (j : Int) < (lv : Int) := by omega
            obtain rfl : j = lv := by omega
            have HE := Lib.hid (show J (subsN k (q + 1)) wr from by
              rw [HSN.out]
              have := HJJ.out
              rw [HLM.out, List.take_length] at this
              exact this)
            clear hjl hj
            gi_wp2
            refine ⟨⟨q + 1, by have := HQ2.out; omega, .inl (by have := HLT.out; omega), by simp, HE.out, HK9.out.trans HKJ.out⟩, ?_⟩
            have := HLT.out; simp only [intOf]; omega
end Go.Proofs.Ytpobckedeffjmaa

/- Layer 28, plain: one line with one line; the finder in memory. -/
set_option linter.unusedSimpArgs false
set_option maxRecDepth 50000
namespace Go.Proofs.Ytpobckedeffjmaa
open Go.RowKit Go

/-- The line at a place. -/
def lat (l : List O3) (k : Nat) : O3 := l[k]?.getD default
theorem lat_get {l : List O3} {k : Nat} (h : k < l.length) : l[k] = lat l k := by simp [lat, h]
def uat (u : List Bool) (k : Nat) : Bool := u[k]?.getD true
theorem uat_get {u : List Bool} {k : Nat} (h : k < u.length) : u[k] = uat u k := by simp [uat, h]
/-- Line k fits an amount. -/
def fitB (x : Int) (r : List O3) (ur : List Bool) (tol : Int) (k : Nat) : Bool := !uat ur k && oppB x (lat r k).n && !decide (tol < szI (x + (lat r k).n))
/-- The best place of the first ones. -/
def bestM (x : Int) (r : List O3) (ur : List Bool) (tol : Int) : Nat → Option Nat
  | 0 => none
  | k + 1 => if fitB x r ur tol k then (match bestM x r ur tol k with
      | none => some k
      | some j => if szI (x + (lat r k).n) < szI (x + (lat r j).n) then some k else some j) else bestM x r ur tol k
theorem bestM_lt {x : Int} {r : List O3} {ur : List Bool} {tol : Int} : ∀ {k j : Nat}, bestM x r ur tol k = some j → j < k
  | 0, _, h => by cases h
  | k + 1, j, h => by
    unfold bestM at h
    split at h
    · split at h
      · cases h; omega
      · rename_i i hi
        split at h
        · cases h; omega
        · cases h; have := bestM_lt hi; omega
    · have := bestM_lt h; omega
/-- What is used, what has been found. -/
structure FS where
  ul : List Bool
  ur : List Bool
  out : List P2
def oneStep (l r : List O3) (tol : Int) (st : FS) (i : Nat) : FS :=
  match bestM (lat l i).n r st.ur tol r.length with
  | none => st
  | some k => ⟨st.ul.set i true, st.ur.set k true, st.out ++ [([(lat l i).r], [(lat r k).r])]⟩
def oneAt (l r : List O3) (tol : Int) (st : FS) (i : Nat) : FS := (List.range i).foldl (oneStep l r tol) st
theorem oneAt_succ (l r : List O3) (tol : Int) (st : FS) (i : Nat) : oneAt l r tol st (i + 1) = oneStep l r tol (oneAt l r tol st i) i := by
  unfold oneAt
  rw [List.range_succ, List.foldl_append]; rfl
theorem oneStep_len (l r : List O3) (tol : Int) (st : FS) (i : Nat) : (oneStep l r tol st i).out.length ≤ st.out.length + 1 := by
  unfold oneStep
  split
  · omega
  · simp
theorem oneAt_len (l r : List O3) (tol : Int) (st : FS) (i : Nat) : (oneAt l r tol st i).out.length ≤ st.out.length + i := by
  induction i with
  | zero => simp [oneAt]
  | succ i ih => rw [oneAt_succ]; have := oneStep_len l r tol (oneAt l r tol st i) i; omega
/-! ### Memory -/
theorem ref1_rd {S : Nat → Prop} {W : World} {b : Nat} {x : R2} (h : W.heap[b]? = some (.cells #[.int .i64 x.e, .int .i64 x.l] 41 (0, 0))) (hx : x.ok) (hS : S b) : Rd (.sl refT) S W [.slice (some ⟨b, 0, none⟩) 1 1] [x.d] := by
  refine Rd.sl_of_flat (vs := [.int .i64 x.e, .int .i64 x.l]) rfl (Nat.le_refl _) (by omega) (RdL.one (e := refT) (ref_rd hx)) (.inr ⟨b, 0, rfl, hS, fun j u hu => ?_⟩)
  rw [Nat.zero_add, blk_cell h]; simpa using hu
def bRow (u : List Bool) : Array Value := (u.map Value.bool).toArray
theorem bRow_at {W : World} {g : Nat} {u : List Bool} (h : W.heap[g]? = some (.cells (bRow u) 4 (0, 0))) {k : Nat} (hk : k < u.length) : W.cell? ⟨g, k, none⟩ = some (.bool (uat u k)) := by
  rw [blk_cell h, ← uat_get hk]; simp [bRow, hk]
theorem bRow_set (u : List Bool) (k : Nat) (b : Bool) : (bRow u).setIfInBounds k (.bool b) = bRow (u.set k b) := by
  simp [bRow, List.map_set]
def cellsAt (W : World) (b : Nat) : Prop := ∃ o : Obj, W.heap[b]? = some o ∧ o.isCells = true
theorem cellsAt.gr {F : Nat → Prop} {W W' : World} {b : Nat} (h : cellsAt W b) (hg : Gr F W W') (hf : ¬ F b) : cellsAt W' b := by
  obtain ⟨o, ho, hc⟩ := h
  exact ⟨o, (hg.block _ (Array.getElem?_eq_some_iff.1 ho).1 hf).trans ho, hc⟩
theorem cellsAt.below {W W' : World} {b : Nat} (h : cellsAt W b) (hB : Below W.heap.size W W') : cellsAt W' b := by
  obtain ⟨o, ho, hc⟩ := h
  exact ⟨o, (hB.block _ (Array.getElem?_eq_some_iff.1 ho).1).trans ho, hc⟩
theorem cellsAt.kc {W W' : World} {b : Nat} (h : cellsAt W b) (hB : KC W W') : cellsAt W' b := by
  obtain ⟨o, ho, hc⟩ := h
  exact ⟨o, hB.2 _ _ ho hc, hc⟩
theorem Owns.cellsAt {e : Ty} {te : TypeId} {base : Nat} {S : Nat → Prop} {w : World} {v : Value} {xs : List e.den} (h : Owns e te base S w v xs) : ∀ g, v.ownBlock = some g → cellsAt w g := by
  obtain ⟨vs, ho, _, _⟩ := h
  rcases ho.2 with ⟨rfl, _⟩ | ⟨g, cap, cur, rfl, hb, hg, _⟩
  · intro g hg; cases hg
  · intro g' hg'
    cases hg'
    exact ⟨_, hg, rfl⟩
/-- The finder at block B; its rows of what is used at gl, gr. -/
structure Fin6 (base B gl gr : Nat) (al : Option Addr) (cl : Nat) (l : List O3) (ar : Option Addr) (cr : Nat) (r : List O3) (tol : Int) (W : World) (st : FS) : Prop where
  cells : ∃ vo, W.heap[B]? = some (.cells #[.slice al l.length cl, .slice (some ⟨gl, 0, none⟩) l.length l.length, .slice ar r.length cr, .slice (some ⟨gr, 0, none⟩) r.length r.length, .int .i64 tol, vo] 80 (0, 0)) ∧
    (∃ S, Owns pairT 39 base S W vo (st.out.map pairD) ∧ ∀ b, S b → (base ≤ b ∧ b ≠ B ∧ b ≠ gl ∧ b ≠ gr) ∧ cellsAt W b) ∧ ∀ b, vo.ownBlock = some b → b ≠ B ∧ b ≠ gl ∧ b ≠ gr
  left : W.heap[gl]? = some (.cells (bRow st.ul) 4 (0, 0))
  right : W.heap[gr]? = some (.cells (bRow st.ur) 4 (0, 0))
  ll : st.ul.length = l.length
  lr : st.ur.length = r.length
  d : base ≤ B ∧ base ≤ gl ∧ base ≤ gr ∧ B ≠ gl ∧ B ≠ gr ∧ gl ≠ gr
  rl : Rd (.sl openT) (fun b => b < base) W [.slice al l.length cl] (l.map O3.d)
  rr : Rd (.sl openT) (fun b => b < base) W [.slice ar r.length cr] (r.map O3.d)
  lt : base ≤ W.heap.size
  am : (∀ x ∈ l, amtB x.n = true) ∧ (∀ x ∈ r, amtB x.n = true) ∧ l.length ≤ 60 ∧ r.length ≤ 60 ∧ 0 ≤ tol ∧ tol ≤ 1000000000000
theorem Fin6.below {base B gl gr : Nat} {al : Option Addr} {cl : Nat} {l : List O3} {ar : Option Addr} {cr : Nat} {r : List O3} {tol : Int} {W W' : World} {st : FS} (h : Fin6 base B gl gr al cl l ar cr r tol W st) (hB : Below W.heap.size W W') : Fin6 base B gl gr al cl l ar cr r tol W' st := by
  obtain ⟨⟨vo, hb, ⟨S, hO, hS⟩, hv⟩, h1, h2, h3, h4, h5, h6, h7, h8, h9⟩ := h
  exact ⟨⟨vo, (hB.block _ (blk_lt hb)).trans hb, ⟨S, hO.below hB, fun b h => ⟨(hS b h).1, (hS b h).2.below hB⟩⟩, hv⟩, (hB.block _ (blk_lt h1)).trans h1, (hB.block _ (blk_lt h2)).trans h2, h3, h4, h5,
    h6.below hB (fun b hb => Nat.lt_of_lt_of_le hb h8), h7.below hB (fun b hb => Nat.lt_of_lt_of_le hb h8), Nat.le_trans h8 hB.size, h9⟩
theorem Fin6.setL {base B gl gr : Nat} {al : Option Addr} {cl : Nat} {l : List O3} {ar : Option Addr} {cr : Nat} {r : List O3} {tol : Int} {W : World} {st : FS} (h : Fin6 base B gl gr al cl l ar cr r tol W st) (i : Nat) (b : Bool) :
    Fin6 base B gl gr al cl l ar cr r tol (W.setCell ⟨gl, i, none⟩ (.bool b)) ⟨st.ul.set i b, st.ur, st.out⟩ ∧ Gr (fun x => x = gl) W (W.setCell ⟨gl, i, none⟩ (.bool b)) := by
  have hg : Gr (fun x => x = gl) W (W.setCell ⟨gl, i, none⟩ (.bool b)) := Gr.setCell (Gr.refl _ W) (by exact .inl rfl) _
  obtain ⟨⟨vo, hb, ⟨S, hO, hS⟩, hv⟩, h1, h2, h3, h4, h5, h6, h7, h8, h9⟩ := h
  obtain ⟨d0, d1, d2, d3, d4, d5⟩ := h5
  refine ⟨⟨⟨vo, blk_gr hg hb d3, ⟨S, hO.gr hg (fun b hb => (hS b hb).1.2.2.1) (fun b hb => (hv b hb).2.1), fun b h => ⟨(hS b h).1, (hS b h).2.gr hg (hS b h).1.2.2.1⟩⟩, hv⟩, ?_, blk_gr hg h2 (fun e => d5 e.symm), by simpa using h3, h4, ⟨d0, d1, d2, d3, d4, d5⟩,
    h6.gr hg (fun b hb => ⟨Nat.lt_of_lt_of_le hb h8, fun e => by have : b < base := hb; omega⟩) (fun _ h => h), h7.gr hg (fun b hb => ⟨Nat.lt_of_lt_of_le hb h8, fun e => by have : b < base := hb; omega⟩) (fun _ h => h), Nat.le_trans h8 hg.size, h9⟩, hg⟩
  rw [blk_set h1, bRow_set]
theorem Fin6.setR {base B gl gr : Nat} {al : Option Addr} {cl : Nat} {l : List O3} {ar : Option Addr} {cr : Nat} {r : List O3} {tol : Int} {W : World} {st : FS} (h : Fin6 base B gl gr al cl l ar cr r tol W st) (i : Nat) (b : Bool) :
    Fin6 base B gl gr al cl l ar cr r tol (W.setCell ⟨gr, i, none⟩ (.bool b)) ⟨st.ul, st.ur.set i b, st.out⟩ ∧ Gr (fun x => x = gr) W (W.setCell ⟨gr, i, none⟩ (.bool b)) := by
  have hg : Gr (fun x => x = gr) W (W.setCell ⟨gr, i, none⟩ (.bool b)) := Gr.setCell (Gr.refl _ W) (by exact .inl rfl) _
  obtain ⟨⟨vo, hb, ⟨S, hO, hS⟩, hv⟩, h1, h2, h3, h4, h5, h6, h7, h8, h9⟩ := h
  obtain ⟨d0, d1, d2, d3, d4, d5⟩ := h5
  refine ⟨⟨⟨vo, blk_gr hg hb d4, ⟨S, hO.gr hg (fun b hb => (hS b hb).1.2.2.2) (fun b hb => (hv b hb).2.2), fun b h => ⟨(hS b h).1, (hS b h).2.gr hg (hS b h).1.2.2.2⟩⟩, hv⟩, blk_gr hg h1 d5, ?_, h3, by simpa using h4, ⟨d0, d1, d2, d3, d4, d5⟩,
    h6.gr hg (fun b hb => ⟨Nat.lt_of_lt_of_le hb h8, fun e => by have : b < base := hb; omega⟩) (fun _ h => h), h7.gr hg (fun b hb => ⟨Nat.lt_of_lt_of_le hb h8, fun e => by have : b < base := hb; omega⟩) (fun _ h => h), Nat.le_trans h8 hg.size, h9⟩, hg⟩
  rw [blk_set h2, bRow_set]
/-- What has been found, and where. -/
theorem Fin6.outs {base B gl gr : Nat} {al : Option Addr} {cl : Nat} {l : List O3} {ar : Option Addr} {cr : Nat} {r : List O3} {tol : Int} {W : World} {st : FS} (h : Fin6 base B gl gr al cl l ar cr r tol W st) :
    ∃ oa ol oc S, W.cell? ⟨B, 5, none⟩ = some (.slice oa ol oc) ∧ Owns pairT 39 base S W (.slice oa ol oc) (st.out.map pairD) ∧ (∀ b, S b → (base ≤ b ∧ b ≠ B ∧ b ≠ gl ∧ b ≠ gr) ∧ cellsAt W b) ∧ ∀ b, (Value.slice oa ol oc).ownBlock = some b → b ≠ B ∧ b ≠ gl ∧ b ≠ gr := by
  obtain ⟨⟨vo, hb, ⟨S, hO, hS⟩, hv⟩, -⟩ := h
  obtain ⟨oa, ol, oc, rfl, -⟩ := hO.slice
  exact ⟨oa, ol, oc, S, by rw [blk_cell hb]; rfl, hO, hS, hv⟩
/-- A proposal more. -/
theorem Fin6.push {base B gl gr : Nat} {al : Option Addr} {cl : Nat} {l : List O3} {ar : Option Addr} {cr : Nat} {r : List O3} {tol : Int} {W W' : World} {st : FS} (h : Fin6 base B gl gr al cl l ar cr r tol W st)
    {F : Nat → Prop} {S' : Nat → Prop} {v' : Value} {p : P2} (hg : Gr F W W') (hF : ∀ b, F b → base ≤ b ∧ b ≠ B ∧ b ≠ gl ∧ b ≠ gr)
    (hO : Owns pairT 39 base S' W' v' ((st.out ++ [p]).map pairD)) (hS : ∀ b, S' b → (base ≤ b ∧ b ≠ B ∧ b ≠ gl ∧ b ≠ gr) ∧ cellsAt W' b) (hv : ∀ b, v'.ownBlock = some b → b ≠ B ∧ b ≠ gl ∧ b ≠ gr) :
    Fin6 base B gl gr al cl l ar cr r tol (W'.setCell ⟨B, 5, none⟩ v') ⟨st.ul, st.ur, st.out ++ [p]⟩ := by
  have hg2 : Gr (fun x => x = B) W' (W'.setCell ⟨B, 5, none⟩ v') := Gr.setCell (Gr.refl _ W') (by exact .inl rfl) _
  obtain ⟨⟨vo, hb, -, -⟩, h1, h2, h3, h4, h5, h6, h7, h8, h9⟩ := h
  obtain ⟨d0, d1, d2, d3, d4, d5⟩ := h5
  have k1 := blk_gr hg2 (blk_gr hg h1 (fun e => (hF _ e).2.2.1 rfl)) (fun e => d3 e.symm)
  have k2 := blk_gr hg2 (blk_gr hg h2 (fun e => (hF _ e).2.2.2 rfl)) (fun e => d4 e.symm)
  have kb := blk_set (i := 5) (blk_gr hg hb (fun e => (hF _ e).2.1 rfl)) v'
  refine ⟨⟨v', kb, ⟨S', hO.gr hg2 (fun b hb => (hS b hb).1.2.1) (fun b hb => (hv b hb).1), fun b h => ⟨(hS b h).1, (hS b h).2.gr hg2 (hS b h).1.2.1⟩⟩, hv⟩, k1, k2, h3, h4, ⟨d0, d1, d2, d3, d4, d5⟩, ?_, ?_, Nat.le_trans h8 (Nat.le_trans hg.size hg2.size), h9⟩
  · exact (h6.gr hg (fun b hb => ⟨Nat.lt_of_lt_of_le hb h8, fun e => by have h0 : b < base := hb; have := (hF b e).1; omega⟩) (fun _ h => h)).gr hg2 (fun b hb => ⟨by have h0 : b < base := hb; have := hg.size; omega, fun e => by have h0 : b < base := hb; omega⟩) (fun _ h => h)
  · exact (h7.gr hg (fun b hb => ⟨Nat.lt_of_lt_of_le hb h8, fun e => by have h0 : b < base := hb; have := (hF b e).1; omega⟩) (fun _ h => h)).gr hg2 (fun b hb => ⟨by have h0 : b < base := hb; have := hg.size; omega, fun e => by have h0 : b < base := hb; omega⟩) (fun _ h => h)
/-- Whatever turns but cells, from base on. -/
theorem Fin6.kc {base B gl gr : Nat} {al : Option Addr} {cl : Nat} {l : List O3} {ar : Option Addr} {cr : Nat} {r : List O3} {tol : Int} {W W' : World} {st : FS} (h : Fin6 base B gl gr al cl l ar cr r tol W st) (hk : KC W W') (hb0 : ∀ b, b < base → W'.heap[b]? = W.heap[b]?) :
    Fin6 base B gl gr al cl l ar cr r tol W' st := by
  obtain ⟨⟨vo, hb, ⟨S, hO, hS⟩, hv⟩, h1, h2, h3, h4, h5, h6, h7, h8, h9⟩ := h
  refine ⟨⟨vo, hk.2 _ _ hb rfl, ⟨S, hO.keep (fun b hb => ?_) hk.1, fun b h => ⟨(hS b h).1, (hS b h).2.kc hk⟩⟩, hv⟩, hk.2 _ _ h1 rfl, hk.2 _ _ h2 rfl, h3, h4, h5,
    h6.keep hb0 (fun _ h => h), h7.keep hb0 (fun _ h => h), Nat.le_trans h8 hk.1, h9⟩
  rcases hb with hb | hb
  · obtain ⟨o, ho, hc⟩ := (hS b hb).2
    rw [ho, hk.2 _ _ ho hc]
  · obtain ⟨o, ho, hc⟩ := hO.cellsAt b hb
    rw [ho, hk.2 _ _ ho hc]
theorem pair_rd {S : Nat → Prop} {W : World} {a b : Value} {p : P2} (h1 : Rd (.sl refT) S W [a] (p.1.map R2.d)) (h2 : Rd (.sl refT) S W [b] (p.2.map R2.d)) : Rd pairT S W [a, b] (pairD p) := ⟨[_], [_], rfl, h1, [_], _, rfl, h2, rfl⟩
theorem amt_bounds {n : Int} (h : amtB n = true) : n ≠ 0 ∧ -1000000000000 ≤ n ∧ n ≤ 1000000000000 := by
  unfold amtB at h
  simp at h
  omega
theorem szI_bounds {n : Int} {N : Int} (h : -N ≤ n ∧ n ≤ N) : 0 ≤ szI n ∧ szI n ≤ N := by unfold szI; omega
end Go.Proofs.Ytpobckedeffjmaa
