/- Layer 55: the contracts of chain.Next, Sum, links, its closure, Links, Head, Verify and of the library's Collect and AppendSeq as Links calls them. -/
import Derived.Test.YtlfloekanfhlfaaGreatC55a
namespace Go.Proofs.YtlfloekanfhlfaaGreat
open Go.RowKit Go Go.Shelf
attribute [local go_sem] Oper.semAt_some

theorem stepI_wf (h b : Int) : (Lit.int .u64 (stepI h b)).wf = true := wf_bits _ _ _ _
theorem sumI_wf (h : Int) (xs : List Int) (hh : (Lit.int .u64 h).wf = true) : (Lit.int .u64 (sumI h xs)).wf = true := by
  induction xs generalizing h with
  | nil => exact hh
  | cons x xs ih => exact ih _ (stepI_wf _ _)
theorem nextI_wf (h : Int) (xs : List Int) (hh : (Lit.int .u64 h).wf = true) : (Lit.int .u64 (nextI h xs)).wf = true := sumI_wf _ _ (sumI_wf _ _ hh)
def headI (rs : List (List Int)) : Int := rs.foldl nextI 29793
theorem foldl_nextI_wf (rs : List (List Int)) (h : Int) (hh : (Lit.int .u64 h).wf = true) : (Lit.int .u64 (rs.foldl nextI h)).wf = true := by
  induction rs generalizing h with
  | nil => exact hh
  | cons x xs ih => exact ih _ (nextI_wf _ _ hh)
theorem headI_wf (rs : List (List Int)) : (Lit.int .u64 (headI rs)).wf = true := foldl_nextI_wf _ _ (by decide)
def linksN (rs : List (List Int)) (k : Nat) : List Int := (List.range k).map fun j => headI (rs.take (j + 1))
def linksI (rs : List (List Int)) : List Int := linksN rs rs.length
theorem linksN_succ (rs : List (List Int)) (k : Nat) : linksN rs (k + 1) = linksN rs k ++ [headI (rs.take (k + 1))] := by simp [linksN, List.range_succ]
theorem headI_take (rs : List (List Int)) (k : Nat) (h : k < rs.length) : headI (rs.take (k + 1)) = nextI (headI (rs.take k)) rs[k] := by
  unfold headI
  rw [List.take_succ_eq_append_getElem h, List.foldl_append]; rfl
abbrev U64 := { x : Int // (Lit.int .u64 x).wf = true }
def linkU (rs : List (List Int)) (j : Nat) : U64 := ⟨headI (rs.take (j + 1)), headI_wf _⟩
def linksU (rs : List (List Int)) (k : Nat) : List U64 := (List.range k).map (linkU rs)
theorem linksU_succ (rs : List (List Int)) (k : Nat) : linksU rs (k + 1) = linksU rs k ++ [linkU rs k] := by simp [linksU, List.range_succ]
theorem linksU_length (rs : List (List Int)) (k : Nat) : (linksU rs k).length = k := by simp [linksU]
theorem linksU_val (rs : List (List Int)) (k : Nat) : (linksU rs k).map (·.1) = linksN rs k := by simp [linksU, linksN, linkU]

set_option maxHeartbeats 400000 in
theorem Next_any {S : Nat → Prop} (h : Int) (a : Option Addr) (len cap : Nat) (xs : List Int) (w : World) (hS : ∀ b, S b → b < w.heap.size) (hx : Rd (.sl (.int .u8)) S w [.slice a len cap] xs) :
    Calls Tryz.prog 33 #[.int .u64 h, .slice a len cap] w fun e w' => e = .returned (.int .u64 (nextI h xs)) ∧ Below w.heap.size w w' := by
  have HX := Lib.hid hx
  clear hx
  go_enter Tryz.func33, Tryz.ntmps33
  go_wp2_with (go_at_call 58; refine (next_any _ _ _ _ _ _ hS HX.out).mono ?_; rintro e w' ⟨rfl, hB⟩)
  go_ret
  exact ⟨rfl, hB⟩

/-- What has been read, where the world has only grown. -/
theorem Rd.rows {S : Nat → Prop} {w : World} {a : Option Addr} {len cap : Nat} {rs : List (List Int)} (h : Rd (.sl (.sl (.int .u8))) S w [.slice a len cap] rs) :
    rs.length = len ∧ len ≤ cap ∧ cap ≤ 9223372036854775807 ∧ ∀ i (hi : i < rs.length), ∃ b off a' len' cap', a = some ⟨b, off, none⟩ ∧ S b ∧ w.cell? ⟨b, off + i, none⟩ = some (.slice a' len' cap') ∧ Rd (.sl (.int .u8)) S w [.slice a' len' cap'] rs[i] := by
  obtain ⟨h1, h2, h3, h4⟩ := Rd.sl1 (e := .sl (.int .u8)) rfl h
  refine ⟨h1, h2, h3, fun i hi => ?_⟩
  obtain ⟨b, off, v, ha, hb, hc, hr⟩ := h4 i hi
  obtain ⟨a', l', c', hv, _⟩ := id hr
  simp only [List.cons.injEq, and_true] at hv
  subst hv
  exact ⟨b, off, a', l', c', ha, hb, hc, hr⟩

theorem info_u64 : (Tryz.prog.info? 112).map (fun i => (i.zero, i.size, i.bytes)) = some (some (.int .u64 0), 1, 8) := by kernel_rfl

/-- What a loop over the links does to the world, where its body appends to a slice in a variable of its own. -/
def ColI (B T : Nat) (w : World) (xs : List U64) (W : World) : Prop :=
  ∃ v, Boxed W T 97 v ∧ Owns (.int .u64) 112 B (fun _ => False) W v (xs.map (·.1)) ∧ Below B w W ∧ v.ownBlock ≠ some T

theorem ColI.ownFrom (B T D : Nat) (w : World) (hB : B ≤ w.heap.size) (hD : B ≤ D) : OwnFrom D (ColI B T w) := by
  intro s W W' row h hg hr
  obtain ⟨v, hb, ho, hbel, hne⟩ := h
  have hrow : ∀ (k : Nat) (o : Obj), W.heap[k]? = some o → o.isCells = true → W'.heap[k]? = W.heap[k]? := by
    intro k o hk ho'
    refine hg.block k (Array.getElem?_eq_some_iff.1 hk).1 (fun e => ?_)
    obtain ⟨_, o', ho', hc'⟩ := hr k e.symm
    rw [hk] at ho'
    cases ho'
    simp_all
  refine ⟨v, (hrow T _ hb rfl).trans hb, ho.keep (fun b hb' => ?_) hg.size, ?_, hne⟩
  · rcases hb' with hb' | hb'
    · exact hb'.elim
    · obtain ⟨o, h1, h2⟩ := ho.row_cells b hb'
      exact hrow b o h1 h2
  · exact ownFrom_below (β := Unit) (n₀ := B) (B := D) (w₀ := w) hB hD () W W' row hbel hg hr

end Go.Proofs.YtlfloekanfhlfaaGreat
