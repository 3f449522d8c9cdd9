/- Layer 28, plain: one line with one line; the finder in memory. -/
import Derived.Test.YtpobckedeffjmaaM28h
set_option linter.unusedSimpArgs false
set_option maxRecDepth 50000
namespace Go.Proofs.Ytpobckedeffjmaa
open Go.RowKit Go

/-- The line at a place. -/
def lat (l : List O3) (k : Nat) : O3 := l[k]?.getD default
theorem lat_get {l : List O3} {k : Nat} (h : k < l.length) : l[k] = lat l k := by simp [lat, h]
def uat (u : List Bool) (k : Nat) : Bool := u[k]?.getD true
theorem uat_get {u : List Bool} {k : Nat} (h : k < u.length) : u[k] = uat u k := by simp [uat, h]
/-- Line k fits an amount. -/
def fitB (x : Int) (r : List O3) (ur : List Bool) (tol : Int) (k : Nat) : Bool := !uat ur k && oppB x (lat r k).n && !decide (tol < szI (x + (lat r k).n))
/-- The best place of the first ones. -/
def bestM (x : Int) (r : List O3) (ur : List Bool) (tol : Int) : Nat → Option Nat
  | 0 => none
  | k + 1 => if fitB x r ur tol k then (match bestM x r ur tol k with
      | none => some k
      | some j => if szI (x + (lat r k).n) < szI (x + (lat r j).n) then some k else some j) else bestM x r ur tol k
theorem bestM_lt {x : Int} {r : List O3} {ur : List Bool} {tol : Int} : ∀ {k j : Nat}, bestM x r ur tol k = some j → j < k
  | 0, _, h => by cases h
  | k + 1, j, h => by
    unfold bestM at h
    split at h
    · split at h
      · cases h; omega
      · rename_i i hi
        split at h
        · cases h; omega
        · cases h; have := bestM_lt hi; omega
    · have := bestM_lt h; omega
/-- What is used, what has been found. -/
structure FS where
  ul : List Bool
  ur : List Bool
  out : List P2
def oneStep (l r : List O3) (tol : Int) (st : FS) (i : Nat) : FS :=
  match bestM (lat l i).n r st.ur tol r.length with
  | none => st
  | some k => ⟨st.ul.set i true, st.ur.set k true, st.out ++ [([(lat l i).r], [(lat r k).r])]⟩
def oneAt (l r : List O3) (tol : Int) (st : FS) (i : Nat) : FS := (List.range i).foldl (oneStep l r tol) st
theorem oneAt_succ (l r : List O3) (tol : Int) (st : FS) (i : Nat) : oneAt l r tol st (i + 1) = oneStep l r tol (oneAt l r tol st i) i := by
  unfold oneAt
  rw [List.range_succ, List.foldl_append]; rfl
theorem oneStep_len (l r : List O3) (tol : Int) (st : FS) (i : Nat) : (oneStep l r tol st i).out.length ≤ st.out.length + 1 := by
  unfold oneStep
  split
  · omega
  · simp
theorem oneAt_len (l r : List O3) (tol : Int) (st : FS) (i : Nat) : (oneAt l r tol st i).out.length ≤ st.out.length + i := by
  induction i with
  | zero => simp [oneAt]
  | succ i ih => rw [oneAt_succ]; have := oneStep_len l r tol (oneAt l r tol st i) i; omega
/-! ### Memory -/
theorem ref1_rd {S : Nat → Prop} {W : World} {b : Nat} {x : R2} (h : W.heap[b]? = some (.cells #[.int .i64 x.e, .int .i64 x.l] 41 (0, 0))) (hx : x.ok) (hS : S b) : Rd (.sl refT) S W [.slice (some ⟨b, 0, none⟩) 1 1] [x.d] := by
  refine Rd.sl_of_flat (vs := [.int .i64 x.e, .int .i64 x.l]) rfl (Nat.le_refl _) (by omega) (RdL.one (e := refT) (ref_rd hx)) (.inr ⟨b, 0, rfl, hS, fun j u hu => ?_⟩)
  rw [Nat.zero_add, blk_cell h]; simpa using hu
def bRow (u : List Bool) : Array Value := (u.map Value.bool).toArray
theorem bRow_at {W : World} {g : Nat} {u : List Bool} (h : W.heap[g]? = some (.cells (bRow u) 4 (0, 0))) {k : Nat} (hk : k < u.length) : W.cell? ⟨g, k, none⟩ = some (.bool (uat u k)) := by
  rw [blk_cell h, ← uat_get hk]; simp [bRow, hk]
theorem bRow_set (u : List Bool) (k : Nat) (b : Bool) : (bRow u).setIfInBounds k (.bool b) = bRow (u.set k b) := by
  simp [bRow, List.map_set]
def cellsAt (W : World) (b : Nat) : Prop := ∃ o : Obj, W.heap[b]? = some o ∧ o.isCells = true
theorem cellsAt.gr {F : Nat → Prop} {W W' : World} {b : Nat} (h : cellsAt W b) (hg : Gr F W W') (hf : ¬ F b) : cellsAt W' b := by
  obtain ⟨o, ho, hc⟩ := h
  exact ⟨o, (hg.block _ (Array.getElem?_eq_some_iff.1 ho).1 hf).trans ho, hc⟩
theorem cellsAt.below {W W' : World} {b : Nat} (h : cellsAt W b) (hB : Below W.heap.size W W') : cellsAt W' b := by
  obtain ⟨o, ho, hc⟩ := h
  exact ⟨o, (hB.block _ (Array.getElem?_eq_some_iff.1 ho).1).trans ho, hc⟩
theorem cellsAt.kc {W W' : World} {b : Nat} (h : cellsAt W b) (hB : KC W W') : cellsAt W' b := by
  obtain ⟨o, ho, hc⟩ := h
  exact ⟨o, hB.2 _ _ ho hc, hc⟩
theorem Owns.cellsAt {e : Ty} {te : TypeId} {base : Nat} {S : Nat → Prop} {w : World} {v : Value} {xs : List e.den} (h : Owns e te base S w v xs) : ∀ g, v.ownBlock = some g → cellsAt w g := by
  obtain ⟨vs, ho, _, _⟩ := h
  rcases ho.2 with ⟨rfl, _⟩ | ⟨g, cap, cur, rfl, hb, hg, _⟩
  · intro g hg; cases hg
  · intro g' hg'
    cases hg'
    exact ⟨_, hg, rfl⟩
/-- The finder at block B; its rows of what is used at gl, gr. -/
structure Fin6 (base B gl gr : Nat) (al : Option Addr) (cl : Nat) (l : List O3) (ar : Option Addr) (cr : Nat) (r : List O3) (tol : Int) (W : World) (st : FS) : Prop where
  cells : ∃ vo, W.heap[B]? = some (.cells #[.slice al l.length cl, .slice (some ⟨gl, 0, none⟩) l.length l.length, .slice ar r.length cr, .slice (some ⟨gr, 0, none⟩) r.length r.length, .int .i64 tol, vo] 80 (0, 0)) ∧
    (∃ S, Owns pairT 39 base S W vo (st.out.map pairD) ∧ ∀ b, S b → (base ≤ b ∧ b ≠ B ∧ b ≠ gl ∧ b ≠ gr) ∧ cellsAt W b) ∧ ∀ b, vo.ownBlock = some b → b ≠ B ∧ b ≠ gl ∧ b ≠ gr
  left : W.heap[gl]? = some (.cells (bRow st.ul) 4 (0, 0))
  right : W.heap[gr]? = some (.cells (bRow st.ur) 4 (0, 0))
  ll : st.ul.length = l.length
  lr : st.ur.length = r.length
  d : base ≤ B ∧ base ≤ gl ∧ base ≤ gr ∧ B ≠ gl ∧ B ≠ gr ∧ gl ≠ gr
  rl : Rd (.sl openT) (fun b => b < base) W [.slice al l.length cl] (l.map O3.d)
  rr : Rd (.sl openT) (fun b => b < base) W [.slice ar r.length cr] (r.map O3.d)
  lt : base ≤ W.heap.size
  am : (∀ x ∈ l, amtB x.n = true) ∧ (∀ x ∈ r, amtB x.n = true) ∧ l.length ≤ 60 ∧ r.length ≤ 60 ∧ 0 ≤ tol ∧ tol ≤ 1000000000000
theorem Fin6.below {base B gl gr : Nat} {al : Option Addr} {cl : Nat} {l : List O3} {ar : Option Addr} {cr : Nat} {r : List O3} {tol : Int} {W W' : World} {st : FS} (h : Fin6 base B gl gr al cl l ar cr r tol W st) (hB : Below W.heap.size W W') : Fin6 base B gl gr al cl l ar cr r tol W' st := by
  obtain ⟨⟨vo, hb, ⟨S, hO, hS⟩, hv⟩, h1, h2, h3, h4, h5, h6, h7, h8, h9⟩ := h
  exact ⟨⟨vo, (hB.block _ (blk_lt hb)).trans hb, ⟨S, hO.below hB, fun b h => ⟨(hS b h).1, (hS b h).2.below hB⟩⟩, hv⟩, (hB.block _ (blk_lt h1)).trans h1, (hB.block _ (blk_lt h2)).trans h2, h3, h4, h5,
    h6.below hB (fun b hb => Nat.lt_of_lt_of_le hb h8), h7.below hB (fun b hb => Nat.lt_of_lt_of_le hb h8), Nat.le_trans h8 hB.size, h9⟩
theorem Fin6.setL {base B gl gr : Nat} {al : Option Addr} {cl : Nat} {l : List O3} {ar : Option Addr} {cr : Nat} {r : List O3} {tol : Int} {W : World} {st : FS} (h : Fin6 base B gl gr al cl l ar cr r tol W st) (i : Nat) (b : Bool) :
    Fin6 base B gl gr al cl l ar cr r tol (W.setCell ⟨gl, i, none⟩ (.bool b)) ⟨st.ul.set i b, st.ur, st.out⟩ ∧ Gr (fun x => x = gl) W (W.setCell ⟨gl, i, none⟩ (.bool b)) := by
  have hg : Gr (fun x => x = gl) W (W.setCell ⟨gl, i, none⟩ (.bool b)) := Gr.setCell (Gr.refl _ W) (by exact .inl rfl) _
  obtain ⟨⟨vo, hb, ⟨S, hO, hS⟩, hv⟩, h1, h2, h3, h4, h5, h6, h7, h8, h9⟩ := h
  obtain ⟨d0, d1, d2, d3, d4, d5⟩ := h5
  refine ⟨⟨⟨vo, blk_gr hg hb d3, ⟨S, hO.gr hg (fun b hb => (hS b hb).1.2.2.1) (fun b hb => (hv b hb).2.1), fun b h => ⟨(hS b h).1, (hS b h).2.gr hg (hS b h).1.2.2.1⟩⟩, hv⟩, ?_, blk_gr hg h2 (fun e => d5 e.symm), by simpa using h3, h4, ⟨d0, d1, d2, d3, d4, d5⟩,
    h6.gr hg (fun b hb => ⟨Nat.lt_of_lt_of_le hb h8, fun e => by have : b < base := hb; omega⟩) (fun _ h => h), h7.gr hg (fun b hb => ⟨Nat.lt_of_lt_of_le hb h8, fun e => by have : b < base := hb; omega⟩) (fun _ h => h), Nat.le_trans h8 hg.size, h9⟩, hg⟩
  rw [blk_set h1, bRow_set]
theorem Fin6.setR {base B gl gr : Nat} {al : Option Addr} {cl : Nat} {l : List O3} {ar : Option Addr} {cr : Nat} {r : List O3} {tol : Int} {W : World} {st : FS} (h : Fin6 base B gl gr al cl l ar cr r tol W st) (i : Nat) (b : Bool) :
    Fin6 base B gl gr al cl l ar cr r tol (W.setCell ⟨gr, i, none⟩ (.bool b)) ⟨st.ul, st.ur.set i b, st.out⟩ ∧ Gr (fun x => x = gr) W (W.setCell ⟨gr, i, none⟩ (.bool b)) := by
  have hg : Gr (fun x => x = gr) W (W.setCell ⟨gr, i, none⟩ (.bool b)) := Gr.setCell (Gr.refl _ W) (by exact .inl rfl) _
  obtain ⟨⟨vo, hb, ⟨S, hO, hS⟩, hv⟩, h1, h2, h3, h4, h5, h6, h7, h8, h9⟩ := h
  obtain ⟨d0, d1, d2, d3, d4, d5⟩ := h5
  refine ⟨⟨⟨vo, blk_gr hg hb d4, ⟨S, hO.gr hg (fun b hb => (hS b hb).1.2.2.2) (fun b hb => (hv b hb).2.2), fun b h => ⟨(hS b h).1, (hS b h).2.gr hg (hS b h).1.2.2.2⟩⟩, hv⟩, blk_gr hg h1 d5, ?_, h3, by simpa using h4, ⟨d0, d1, d2, d3, d4, d5⟩,
    h6.gr hg (fun b hb => ⟨Nat.lt_of_lt_of_le hb h8, fun e => by have : b < base := hb; omega⟩) (fun _ h => h), h7.gr hg (fun b hb => ⟨Nat.lt_of_lt_of_le hb h8, fun e => by have : b < base := hb; omega⟩) (fun _ h => h), Nat.le_trans h8 hg.size, h9⟩, hg⟩
  rw [blk_set h2, bRow_set]
/-- What has been found, and where. -/
theorem Fin6.outs {base B gl gr : Nat} {al : Option Addr} {cl : Nat} {l : List O3} {ar : Option Addr} {cr : Nat} {r : List O3} {tol : Int} {W : World} {st : FS} (h : Fin6 base B gl gr al cl l ar cr r tol W st) :
    ∃ oa ol oc S, W.cell? ⟨B, 5, none⟩ = some (.slice oa ol oc) ∧ Owns pairT 39 base S W (.slice oa ol oc) (st.out.map pairD) ∧ (∀ b, S b → (base ≤ b ∧ b ≠ B ∧ b ≠ gl ∧ b ≠ gr) ∧ cellsAt W b) ∧ ∀ b, (Value.slice oa ol oc).ownBlock = some b → b ≠ B ∧ b ≠ gl ∧ b ≠ gr := by
  obtain ⟨⟨vo, hb, ⟨S, hO, hS⟩, hv⟩, -⟩ := h
  obtain ⟨oa, ol, oc, rfl, -⟩ := hO.slice
  exact ⟨oa, ol, oc, S, by rw [blk_cell hb]; rfl, hO, hS, hv⟩
/-- A proposal more. -/
theorem Fin6.push {base B gl gr : Nat} {al : Option Addr} {cl : Nat} {l : List O3} {ar : Option Addr} {cr : Nat} {r : List O3} {tol : Int} {W W' : World} {st : FS} (h : Fin6 base B gl gr al cl l ar cr r tol W st)
    {F : Nat → Prop} {S' : Nat → Prop} {v' : Value} {p : P2} (hg : Gr F W W') (hF : ∀ b, F b → base ≤ b ∧ b ≠ B ∧ b ≠ gl ∧ b ≠ gr)
    (hO : Owns pairT 39 base S' W' v' ((st.out ++ [p]).map pairD)) (hS : ∀ b, S' b → (base ≤ b ∧ b ≠ B ∧ b ≠ gl ∧ b ≠ gr) ∧ cellsAt W' b) (hv : ∀ b, v'.ownBlock = some b → b ≠ B ∧ b ≠ gl ∧ b ≠ gr) :
    Fin6 base B gl gr al cl l ar cr r tol (W'.setCell ⟨B, 5, none⟩ v') ⟨st.ul, st.ur, st.out ++ [p]⟩ := by
  have hg2 : Gr (fun x => x = B) W' (W'.setCell ⟨B, 5, none⟩ v') := Gr.setCell (Gr.refl _ W') (by exact .inl rfl) _
  obtain ⟨⟨vo, hb, -, -⟩, h1, h2, h3, h4, h5, h6, h7, h8, h9⟩ := h
  obtain ⟨d0, d1, d2, d3, d4, d5⟩ := h5
  have k1 := blk_gr hg2 (blk_gr hg h1 (fun e => (hF _ e).2.2.1 rfl)) (fun e => d3 e.symm)
  have k2 := blk_gr hg2 (blk_gr hg h2 (fun e => (hF _ e).2.2.2 rfl)) (fun e => d4 e.symm)
  have kb := blk_set (i := 5) (blk_gr hg hb (fun e => (hF _ e).2.1 rfl)) v'
  refine ⟨⟨v', kb, ⟨S', hO.gr hg2 (fun b hb => (hS b hb).1.2.1) (fun b hb => (hv b hb).1), fun b h => ⟨(hS b h).1, (hS b h).2.gr hg2 (hS b h).1.2.1⟩⟩, hv⟩, k1, k2, h3, h4, ⟨d0, d1, d2, d3, d4, d5⟩, ?_, ?_, Nat.le_trans h8 (Nat.le_trans hg.size hg2.size), h9⟩
  · exact (h6.gr hg (fun b hb => ⟨Nat.lt_of_lt_of_le hb h8, fun e => by have h0 : b < base := hb; have := (hF b e).1; omega⟩) (fun _ h => h)).gr hg2 (fun b hb => ⟨by have h0 : b < base := hb; have := hg.size; omega, fun e => by have h0 : b < base := hb; omega⟩) (fun _ h => h)
  · exact (h7.gr hg (fun b hb => ⟨Nat.lt_of_lt_of_le hb h8, fun e => by have h0 : b < base := hb; have := (hF b e).1; omega⟩) (fun _ h => h)).gr hg2 (fun b hb => ⟨by have h0 : b < base := hb; have := hg.size; omega, fun e => by have h0 : b < base := hb; omega⟩) (fun _ h => h)
/-- Whatever turns but cells, from base on. -/
theorem Fin6.kc {base B gl gr : Nat} {al : Option Addr} {cl : Nat} {l : List O3} {ar : Option Addr} {cr : Nat} {r : List O3} {tol : Int} {W W' : World} {st : FS} (h : Fin6 base B gl gr al cl l ar cr r tol W st) (hk : KC W W') (hb0 : ∀ b, b < base → W'.heap[b]? = W.heap[b]?) :
    Fin6 base B gl gr al cl l ar cr r tol W' st := by
  obtain ⟨⟨vo, hb, ⟨S, hO, hS⟩, hv⟩, h1, h2, h3, h4, h5, h6, h7, h8, h9⟩ := h
  refine ⟨⟨vo, hk.2 _ _ hb rfl, ⟨S, hO.keep (fun b hb => ?_) hk.1, fun b h => ⟨(hS b h).1, (hS b h).2.kc hk⟩⟩, hv⟩, hk.2 _ _ h1 rfl, hk.2 _ _ h2 rfl, h3, h4, h5,
    h6.keep hb0 (fun _ h => h), h7.keep hb0 (fun _ h => h), Nat.le_trans h8 hk.1, h9⟩
  rcases hb with hb | hb
  · obtain ⟨o, ho, hc⟩ := (hS b hb).2
    rw [ho, hk.2 _ _ ho hc]
  · obtain ⟨o, ho, hc⟩ := hO.cellsAt b hb
    rw [ho, hk.2 _ _ ho hc]
theorem pair_rd {S : Nat → Prop} {W : World} {a b : Value} {p : P2} (h1 : Rd (.sl refT) S W [a] (p.1.map R2.d)) (h2 : Rd (.sl refT) S W [b] (p.2.map R2.d)) : Rd pairT S W [a, b] (pairD p) := ⟨[_], [_], rfl, h1, [_], _, rfl, h2, rfl⟩
theorem amt_bounds {n : Int} (h : amtB n = true) : n ≠ 0 ∧ -1000000000000 ≤ n ∧ n ≤ 1000000000000 := by
  unfold amtB at h
  simp at h
  omega
theorem szI_bounds {n : Int} {N : Int} (h : -N ≤ n ∧ n ≤ N) : 0 ≤ szI n ∧ szI n ≤ N := by unfold szI; omega
end Go.Proofs.Ytpobckedeffjmaa
