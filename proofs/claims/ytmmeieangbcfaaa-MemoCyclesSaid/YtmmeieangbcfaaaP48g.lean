/- Layer 48, plain: the formulas of the law MemoCycles. -/
import Derived.Test.YtmmeieangbcfaaaP48f
import Derived.Test.YtmmeieangbcfaaaC48v
namespace Go.Proofs.Ytmmeieangbcfaaa
open Go.RowKit Go

def at48 (xs : List cellT.den) (i : Nat) : cellT.den := xs.getD i (0, 0, 0, 0, ())
def cyForm (c t : cellT.den) : formT.den := (c, [(t, 1, ())], 0, 0, -1, ())
/-- The first m formulas of the circle. -/
def cyForms (xs : List cellT.den) (m : Nat) : List formT.den := (List.range m).map fun i => cyForm (at48 xs i) (at48 xs ((i + 1) % xs.length))
theorem fm_cy (c t : cellT.den) : fm (cyForm c t) = cyT (c4 c) (c4 t) := rfl
theorem cyForms_succ (xs : List cellT.den) (m : Nat) : cyForms xs (m + 1) = cyForms xs m ++ [cyForm (at48 xs m) (at48 xs ((m + 1) % xs.length))] := by
  unfold cyForms
  rw [List.range_succ, List.map_append]; rfl
theorem cyForms_get (xs : List cellT.den) (m j : Nat) (h : j < (cyForms xs m).length) : (cyForms xs m)[j] = cyForm (at48 xs j) (at48 xs ((j + 1) % xs.length)) := by
  simp [cyForms]
theorem findF_snoc (l : List Fm) (f : Fm) (c : C4) : findF (l ++ [f]) c = if f.cell = c then f else findF l c := by
  unfold findF
  rw [List.reverse_append, List.reverse_singleton, List.singleton_append, List.find?_cons]
  by_cases h : f.cell = c
  · rw [decide_eq_true h, if_pos h]; rfl
  · rw [decide_eq_false h, if_neg h]
theorem at48_get (xs : List cellT.den) (i : Nat) (h : i < xs.length) : at48 xs i = xs[i] := by
  unfold at48
  rw [List.getD_eq_getElem?_getD, List.getElem?_eq_getElem h]; rfl
theorem cells_inj {xs : List cellT.den} (hn : (xs.map c4).Nodup) {i j : Nat} (hi : i < xs.length) (hj : j < xs.length) (h : c4 (at48 xs i) = c4 (at48 xs j)) : i = j := by
  rw [at48_get xs i hi, at48_get xs j hj] at h
  have h1 : (xs.map c4)[i]'(by rw [List.length_map]; exact hi) = (xs.map c4)[j]'(by rw [List.length_map]; exact hj) := by rw [List.getElem_map, List.getElem_map]; exact h
  have hp := List.pairwise_iff_getElem.1 hn
  rcases Nat.lt_trichotomy i j with h2 | h2 | h2
  · exact absurd h1 (hp i j _ _ h2)
  · exact h2
  · exact absurd h1.symm (hp j i _ _ h2)
theorem find_cyForms {xs : List cellT.den} (hn : (xs.map c4).Nodup) (i : Nat) (hi : i < xs.length) : findF ((cyForms xs xs.length).map fm) (c4 (at48 xs i)) = cyT (c4 (at48 xs i)) (c4 (at48 xs ((i + 1) % xs.length))) := by
  have hlen : ((cyForms xs xs.length).map fm).length = xs.length := by unfold cyForms; simp
  have hget : ∀ j (hj : j < ((cyForms xs xs.length).map fm).length), ((cyForms xs xs.length).map fm)[j] = cyT (c4 (at48 xs j)) (c4 (at48 xs ((j + 1) % xs.length))) := fun j hj => by
    rw [List.getElem_map, cyForms_get]; rfl
  rw [findF_hit (k := i) (by rw [hlen]; exact hi) (by rw [hget]; rfl) (fun j hj hij => by
    rw [hget]
    intro e
    have := cells_inj hn (by rw [hlen] at hj; exact hj) hi e
    omega)]
  exact hget i _
/-- The circle and its reader. -/
def cyAll (xs : List cellT.den) (r : cellT.den) : List formT.den := cyForms xs xs.length ++ [cyForm r (at48 xs 0)]
theorem mem_at {xs : List cellT.den} {i : Nat} (hi : i < xs.length) : c4 (at48 xs i) ∈ xs.map c4 := by
  rw [at48_get xs i hi]
  exact List.mem_map_of_mem (List.getElem_mem hi)
theorem at_mem {xs : List cellT.den} {c : C4} (h : c ∈ xs.map c4) : ∃ i, i < xs.length ∧ c = c4 (at48 xs i) := by
  obtain ⟨x, hx, rfl⟩ := List.mem_map.1 h
  obtain ⟨i, hi, rfl⟩ := List.getElem_of_mem hx
  exact ⟨i, hi, by rw [at48_get xs i hi]⟩
theorem find_cyAll {xs : List cellT.den} {r : cellT.den} (hn : (xs.map c4).Nodup) (hr : c4 r ∉ xs.map c4) (i : Nat) (hi : i < xs.length) : findF ((cyAll xs r).map fm) (c4 (at48 xs i)) = cyT (c4 (at48 xs i)) (c4 (at48 xs ((i + 1) % xs.length))) := by
  unfold cyAll
  rw [List.map_append, List.map_singleton, findF_snoc, if_neg]
  · exact find_cyForms hn i hi
  · intro e
    exact hr (by rw [show c4 r = c4 (at48 xs i) from e]; exact mem_at hi)
theorem find_reader (xs : List cellT.den) (r : cellT.den) : findF ((cyAll xs r).map fm) (c4 r) = cyT (c4 r) (c4 (at48 xs 0)) := by
  unfold cyAll
  rw [List.map_append, List.map_singleton, findF_snoc, if_pos (show (fm (cyForm r (at48 xs 0))).cell = c4 r from rfl)]
  rfl
theorem cyAll_closed {xs : List cellT.den} {r : cellT.den} (hn : (xs.map c4).Nodup) (hr : c4 r ∉ xs.map c4) : ∀ c ∈ xs.map c4, ∃ t ∈ xs.map c4, findF ((cyAll xs r).map fm) c = cyT c t := by
  intro c hc
  obtain ⟨i, hi, rfl⟩ := at_mem hc
  exact ⟨_, mem_at (Nat.mod_lt _ (by omega)), find_cyAll hn hr i hi⟩
/-- What the memo is while the circle stands. -/
def CyS (m : Nat) (s : MS) : Prop := Bare s ∧ s.n = 0 ∧ (∀ d, s.prog d = false) ∧ s.pn = 0 ∧ s.comp.length ≤ m * 30
theorem CyS.get {xs : List cellT.den} {r : cellT.den} (hn : (xs.map c4).Nodup) (hr : c4 r ∉ xs.map c4) (hl : xs.length ≤ 10) {m : Nat} {s : MS} (h : CyS m s) (hm : m ≤ 100) (i : Nat) (hi : i < xs.length) :
    ∃ s', getM ((cyAll xs r).map fm) 100 s (c4 (at48 xs i)) = some ((0, 7), s') ∧ CyS (m + 1) s' := by
  obtain ⟨h1, h2, h3, h4, h5⟩ := h
  have hlen : (xs.map c4).length = xs.length := List.length_map _
  have hmost : most = 1000000 := rfl
  obtain ⟨s', k1, k2, k3, k4, k5, k6⟩ := cy_get (cyAll_closed hn hr) xs.length s (c4 (at48 xs i)) 100 (mem_at hi) (by rw [← hlen]; exact List.length_filter_le _ _) h1 (by omega) (by omega) (by omega) (by omega)
  exact ⟨s', k1, k2, by omega, fun d => by rw [k4]; exact h3 d, by omega, by omega⟩
theorem CyS.read {xs : List cellT.den} {r : cellT.den} (hn : (xs.map c4).Nodup) (hr : c4 r ∉ xs.map c4) (hl : xs.length ≤ 10) (h0 : 0 < xs.length) {m : Nat} {s : MS} (h : CyS m s) (hm : m ≤ 100) :
    ∃ s', getM ((cyAll xs r).map fm) 100 s (c4 r) = some ((0, 7), s') ∧ CyS (m + 1) s' := by
  obtain ⟨h1, h2, h3, h4, h5⟩ := h
  have hlen : (xs.map c4).length = xs.length := List.length_map _
  have hmost : most = 1000000 := rfl
  obtain ⟨s', k1, k2, k3, k4, k5, k6⟩ := cy_read (cyAll_closed hn hr) s (c4 r) (c4 (at48 xs 0)) 100 (mem_at h0) (find_reader xs r) h3 h1 (by omega) (by omega) (by omega) (by omega)
  exact ⟨s', k1, k2, by omega, fun d => by rw [k4]; exact h3 d, by omega, by omega⟩
def cyEnd (xs : List cellT.den) (r : cellT.den) (v : Int) : List formT.den := cyAll xs r ++ [(at48 xs (xs.length - 1), [], v, 0, 0, ())]
theorem getLast_at {xs : List cellT.den} (h0 : 0 < xs.length) (r : C4) : (r :: xs.map c4).getLast (by simp) = c4 (at48 xs (xs.length - 1)) := by
  have hne : xs.map c4 ≠ [] := by intro e; rw [List.map_eq_nil_iff] at e; rw [e] at h0; simp at h0
  rw [List.getLast_cons hne, List.getLast_eq_getElem, List.getElem_map, at48_get xs (xs.length - 1) (by omega)]
  congr 2
  rw [List.length_map]
theorem CyS.end_ {xs : List cellT.den} {r : cellT.den} {v : Int} (hv : -32768 ≤ v ∧ v ≤ 32767) (hn : (xs.map c4).Nodup) (hr : c4 r ∉ xs.map c4) (hl : xs.length ≤ 10) (h0 : 0 < xs.length) {m : Nat} {s : MS} (h : CyS m s) (hm : m ≤ 100) :
    ∃ s', getM ((cyEnd xs r v).map fm) 100 (s.change (c4 (at48 xs (xs.length - 1)))) (c4 r) = some ((v, 0), s') ∧ s'.n = xs.length + 1 := by
  obtain ⟨h1, h2, h3, h4, h5⟩ := h
  have hlen : (xs.map c4).length = xs.length := List.length_map _
  have hmost : most = 1000000 := rfl
  have hf : ∀ c, c4 (at48 xs (xs.length - 1)) ≠ c → findF ((cyEnd xs r v).map fm) c = findF ((cyAll xs r).map fm) c := fun c hc => by
    unfold cyEnd
    rw [List.map_append, List.map_singleton, findF_snoc, if_neg]
    exact hc
  have hrl : c4 (at48 xs (xs.length - 1)) ≠ c4 r := fun e => hr (by rw [← e]; exact mem_at (by omega))
  obtain ⟨s', k1, k2, k3, -⟩ := cy_chain (l := (cyEnd xs r v).map fm) hv (xs.map c4) (c4 r) (s.change (c4 (at48 xs (xs.length - 1)))) 100 (List.nodup_cons.2 ⟨hr, hn⟩) (fun i hi => by
    cases i with
    | zero =>
      simp only [List.getElem_cons_zero, List.getElem_cons_succ, List.getElem_map]
      rw [hf _ hrl, find_reader, at48_get xs 0 h0]
    | succ i =>
      simp only [List.length_cons, List.length_map] at hi
      simp only [List.getElem_cons_succ, List.getElem_map]
      rw [← at48_get xs i (by omega), ← at48_get xs (i + 1) (by omega), hf _ (fun e => by have := cells_inj hn (by omega) (by omega) e; omega), find_cyAll hn hr i (by omega), Nat.mod_eq_of_lt (by omega)]) (by
    rw [getLast_at h0]
    unfold cyEnd
    rw [List.map_append, List.map_singleton, findF_snoc, if_pos (show (fm (at48 xs (xs.length - 1), [], v, 0, 0, ())).cell = c4 (at48 xs (xs.length - 1)) from rfl)]
    rfl) (fun d _ => ⟨h3 d, by show (s.kept d).map _ = none; rw [h1 d]; rfl⟩) (by show s.pn + _ < _; omega) (by show s.n + _ < _; omega) (by show s.comp.length + _ < _; omega) (by omega)
  exact ⟨s', k1, by rw [k3]; show s.n + _ + 1 = _; omega⟩
end Go.Proofs.Ytmmeieangbcfaaa
