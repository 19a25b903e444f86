/- A book: the steps of Need. -/
import Derived.Test.YtjmgookpmngmaadPr5
namespace Go.Proofs.Ytjmgookpmngmaad
open Go Go.RowKit Go.Maps

section
variable {w w' : World} {own own' : Own} {pb bc bn bk n : Nat} {M : BM} {cl : List (Int × ClT)} {cn : List (Int × CnT)} {nm : List (ByteArray × ByteArray)}
/-- A text gets its name. -/
theorem BookC.newNm (h : BookC w own pb bc bn bk cl nm cn) {q x : ByteArray} (hM : MapT w' bn strV goodS (mput (mapS nm) q (strV x))) (tt : Touch [bn] w w') : BookC w' own pb bc bn bk cl (mput nm q x) cn := by
  have ne : ∀ {i : Nat} {tg : Tag}, own i = some tg → tg ≠ .book 2 → i ∉ [bn] := fun hi hn hmm => by
    simp only [List.mem_cons, List.not_mem_nil, or_false] at hmm
    subst hmm
    rw [h.o2] at hi
    exact hn (by cases hi; rfl)
  refine ⟨(tt.block _ (heap_lt h.cells) (ne h.o0 (by simp))).trans h.cells, h.o0, h.o1, h.o2, h.o3, h.mc.of_block (tt.block _ h.mc.lt (ne h.o1 (by simp))), hM.of_eq (mput_map strV nm q x), h.mcon.of_block (tt.block _ h.mcon.lt (ne h.o3 (by simp))), fun r hr => ?_, fun r hr => ?_, fun i tg hi => Nat.lt_of_lt_of_le (h.lt i tg hi) tt.size⟩
  · refine (h.cls r hr).keptT tt (fun i hi => .inl ?_) fun _ _ _ => rfl
    simp only [List.mem_cons, List.not_mem_nil, or_false] at hi
    subst hi
    rw [h.o2]; simp
  · refine (h.cns r hr).keptT tt (fun i hi => .inl fun k => ?_) fun _ _ _ => rfl
    simp only [List.mem_cons, List.not_mem_nil, or_false] at hi
    subst hi
    rw [h.o2]; simp
/-- A connection is made. -/
theorem BookC.newCn (h : BookC w own pb bc bn bk cl nm cn) {id : Int} {g1 g2 : Nat} (hg1 : own g1 = none) (hg2 : own g2 = none) (hne : g1 ≠ g2) (hM : MapT w' g1 strV goodS []) (hcell : w'.heap[g2]? = some (.cells #[.map (some g1), .slice none 0 0] 56 (0, 0)))
    (hC : MapT w' bk intV goodI (mput (mapK cn) id (.pointer (some ⟨g2, 0, none⟩)))) (tt : Touch [bk] w w') :
    BookC w' (addO (addO own g1 (.conn id 1)) g2 (.conn id 0)) pb bc bn bk cl nm (mput cn id ⟨g2, g1, none, 0, []⟩) := by
  have old : ∀ i, own i ≠ none → addO (addO own g1 (.conn id 1)) g2 (.conn id 0) i = own i := fun i hi => by
    rw [addO_old (fun e => hi (by rw [e]; exact hg2)), addO_old (fun e => hi (by rw [e]; exact hg1))]
  have ne : ∀ {i : Nat} {tg : Tag}, own i = some tg → tg ≠ .book 3 → i ∉ [bk] := fun hi hn hmm => by
    simp only [List.mem_cons, List.not_mem_nil, or_false] at hmm
    subst hmm
    rw [h.o3] at hi
    exact hn (by cases hi; rfl)
  refine ⟨(tt.block _ (heap_lt h.cells) (ne h.o0 (by simp))).trans h.cells, by rw [old _ (by rw [h.o0]; simp)]; exact h.o0, by rw [old _ (by rw [h.o1]; simp)]; exact h.o1, by rw [old _ (by rw [h.o2]; simp)]; exact h.o2, by rw [old _ (by rw [h.o3]; simp)]; exact h.o3,
    h.mc.of_block (tt.block _ h.mc.lt (ne h.o1 (by simp))), h.mn.of_block (tt.block _ h.mn.lt (ne h.o2 (by simp))), hC.of_eq (mput_map (fun c : CnT => Value.pointer (some ⟨c.pc, 0, none⟩)) cn id ⟨g2, g1, none, 0, []⟩), fun r hr => ?_, fun r hr => ?_, fun i tg hi => ?_⟩
  · refine (h.cls r hr).keptT tt (fun i hi => .inl ?_) fun i _ hi => old i hi
    simp only [List.mem_cons, List.not_mem_nil, or_false] at hi
    subst hi
    rw [h.o3]; simp
  · rcases mput_mem3 h.cnN hr with rfl | ⟨hr', hne⟩
    · exact ⟨hcell, hM, World.ownsRow_nil _ _ _ _, addO_same _ _ _, by rw [addO_old hne]; exact addO_same _ _ _, fun i hi => by simp [CnT.row, Value.ownBlock] at hi⟩
    · refine (h.cns r hr').keptT tt (fun i hi => .inl fun k => ?_) fun i _ hi => old i hi
      simp only [List.mem_cons, List.not_mem_nil, or_false] at hi
      subst hi
      rw [h.o3]; simp
  · by_cases e2 : i = g2
    · subst e2; exact heap_lt hcell
    · rw [addO_old e2] at hi
      by_cases e1 : i = g1
      · subst e1; exact hM.lt
      · rw [addO_old e1] at hi
        exact Nat.lt_of_lt_of_le (h.lt i tg hi) tt.size
def ownRow (own : Own) (id : Int) (v : Value) : Own := match v.ownBlock with | some g => addO own g (.conn id 2) | none => own
/-- A connection gets a name. -/
theorem BookC.putCn (h : BookC w own pb bc bn bk cl nm cn) {id : Int} {t t' : CnT} (hm : mget cn id = some t) (e1 : t'.pc = t.pc) (e2 : t'.bh = t.bh) (hcell : w'.heap[t.pc]? = some (.cells #[.map (some t.bh), t'.row] 56 (0, 0)))
    (hM : MapT w' t.bh strV goodS (mapH t'.order)) (hrow : w'.ownsRow 0 9 1 t'.row t'.order.length (strsV t'.order)) (hloc : ∀ g, t'.row.ownBlock = some g → t.row.ownBlock = some g ∨ w.heap.size ≤ g)
    (tt : Touch ([t.pc, t.bh] ++ t.row.ownBlock.toList) w w') : BookC w' (ownRow own id t'.row) pb bc bn bk cl nm (mput cn id t') := by
  have ht := h.cns _ (mget_mem hm)
  have hS : ∀ i ∈ [t.pc, t.bh] ++ t.row.ownBlock.toList, ∃ k, own i = some (.conn id k) := fun i hi => by
    simp only [List.cons_append, List.nil_append, List.mem_cons, Option.mem_toList] at hi
    rcases hi with rfl | rfl | hi
    · exact ⟨0, ht.o0⟩
    · exact ⟨1, ht.o1⟩
    · exact ⟨2, ht.o2 i hi⟩
  have ne : ∀ {i : Nat} {tg : Tag}, own i = some tg → (∀ k, tg ≠ .conn id k) → i ∉ [t.pc, t.bh] ++ t.row.ownBlock.toList := fun hi hn hmm => by
    obtain ⟨k, hk⟩ := hS _ hmm
    rw [hk] at hi
    exact hn k (by cases hi; rfl)
  have old : ∀ i, i < w.heap.size → own i ≠ none → ownRow own id t'.row i = own i := fun i hi hn => by
    unfold ownRow
    cases hg : t'.row.ownBlock with
    | none => rfl
    | some g =>
      show addO own g (.conn id 2) i = own i
      by_cases e : i = g
      · subst e
        rcases hloc i hg with q | q
        · rw [addO_same, ht.o2 i q]
        · omega
      · exact addO_old e
  have e : mapK (mput cn id t') = mapK cn := by
    have h1 := mput_map (fun c : CnT => Value.pointer (some ⟨c.pc, 0, none⟩)) cn id t'
    have h2 : mget (mapK cn) id = some (.pointer (some ⟨t'.pc, 0, none⟩)) := by rw [mget_mapK, hm, e1]; rfl
    exact h1.symm.trans (mput_self h2)
  refine ⟨(tt.block _ (heap_lt h.cells) (ne h.o0 (by simp))).trans h.cells, by rw [old _ (heap_lt h.cells) (by rw [h.o0]; simp)]; exact h.o0, by rw [old _ h.mc.lt (by rw [h.o1]; simp)]; exact h.o1, by rw [old _ h.mn.lt (by rw [h.o2]; simp)]; exact h.o2, by rw [old _ h.mcon.lt (by rw [h.o3]; simp)]; exact h.o3,
    h.mc.of_block (tt.block _ h.mc.lt (ne h.o1 (by simp))), h.mn.of_block (tt.block _ h.mn.lt (ne h.o2 (by simp))), ?_, fun r hr => ?_, fun r hr => ?_, fun i tg hi => ?_⟩
  · rw [e]; exact h.mcon.of_block (tt.block _ h.mcon.lt (ne h.o3 (by simp)))
  · refine (h.cls r hr).keptT tt (fun i hi => .inl ?_) old
    obtain ⟨k, hk⟩ := hS i hi
    rw [hk]; simp
  · rcases mput_mem3 h.cnN hr with rfl | ⟨hr', hne⟩
    · refine ⟨by rw [e1, e2]; exact hcell, by rw [e2]; exact hM, hrow, by rw [e1, old _ (heap_lt ht.cells) (by rw [ht.o0]; simp)]; exact ht.o0, by rw [e2, old _ ht.map.lt (by rw [ht.o1]; simp)]; exact ht.o1, fun i hi => ?_⟩
      unfold ownRow
      have hi' : t'.row.ownBlock = some i := hi
      rw [hi']
      exact addO_same _ _ _
    · refine (h.cns r hr').keptT tt (fun i hi => .inl fun k => ?_) old
      obtain ⟨k', hk⟩ := hS i hi
      rw [hk]
      simp only [ne_eq, Option.some.injEq, Tag.conn.injEq, not_and]
      exact fun e => absurd e.symm hne
  · unfold ownRow at hi
    cases hg : t'.row.ownBlock with
    | none => rw [hg] at hi; exact Nat.lt_of_lt_of_le (h.lt i tg hi) tt.size
    | some g =>
      rw [hg] at hi
      have hi' : addO own g (.conn id 2) i = some tg := hi
      by_cases e : i = g
      · subst e
        rcases hrow.2 with ⟨hv, _⟩ | ⟨g', cap, cur, hv, _, hgg, _⟩
        · rw [hv] at hg; cases hg
        · rw [hv] at hg; cases hg; exact heap_lt hgg
      · rw [addO_old e] at hi'
        exact Nat.lt_of_lt_of_le (h.lt i tg hi') tt.size
/-- A connection goes. -/
theorem BookC.delCn (h : BookC w own pb bc bn bk cl nm cn) {id : Int} (hC : MapT w' bk intV goodI (mdel (mapK cn) id)) (tt : Touch [bk] w w') : BookC w' own pb bc bn bk cl nm (mdel cn id) := by
  have ne : ∀ {i : Nat} {tg : Tag}, own i = some tg → tg ≠ .book 3 → i ∉ [bk] := fun hi hn hmm => by
    simp only [List.mem_cons, List.not_mem_nil, or_false] at hmm
    subst hmm
    rw [h.o3] at hi
    exact hn (by cases hi; rfl)
  refine ⟨(tt.block _ (heap_lt h.cells) (ne h.o0 (by simp))).trans h.cells, h.o0, h.o1, h.o2, h.o3, h.mc.of_block (tt.block _ h.mc.lt (ne h.o1 (by simp))), h.mn.of_block (tt.block _ h.mn.lt (ne h.o2 (by simp))), hC.of_eq (mdel_map (fun c : CnT => Value.pointer (some ⟨c.pc, 0, none⟩)) cn id), fun r hr => ?_, fun r hr => ?_, fun i tg hi => Nat.lt_of_lt_of_le (h.lt i tg hi) tt.size⟩
  · refine (h.cls r hr).keptT tt (fun i hi => .inl ?_) fun _ _ _ => rfl
    simp only [List.mem_cons, List.not_mem_nil, or_false] at hi
    subst hi
    rw [h.o3]; simp
  · refine (h.cns r (List.mem_filter.1 hr).1).keptT tt (fun i hi => .inl fun k => ?_) fun _ _ _ => rfl
    simp only [List.mem_cons, List.not_mem_nil, or_false] at hi
    subst hi
    rw [h.o3]; simp
end
end Go.Proofs.Ytjmgookpmngmaad
