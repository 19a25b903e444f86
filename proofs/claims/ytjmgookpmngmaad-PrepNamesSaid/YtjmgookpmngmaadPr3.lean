/- A book: what a call makes of it. Find, Define, Close, Leave. -/
import Derived.Test.YtjmgookpmngmaadPr2
namespace Go.Proofs.Ytjmgookpmngmaad
open Go Go.RowKit Go.Maps

section
variable {K : Type} [DecidableEq K] {α : Type}
theorem mput_mem3 {l : List (K × α)} (hn : (l.map (·.1)).Nodup) {x : K} {v : α} {p : K × α} (h : p ∈ mput l x v) : p = (x, v) ∨ (p ∈ l ∧ p.1 ≠ x) := by
  induction l with
  | nil => simp [mput] at h; exact .inl h
  | cons q r ih =>
    obtain ⟨y, u⟩ := q
    simp only [List.map_cons, List.nodup_cons] at hn
    unfold mput at h
    by_cases e : y = x
    · subst e
      rw [if_pos rfl] at h
      rcases List.mem_cons.1 h with h | h
      · exact .inl h
      · exact .inr ⟨List.mem_cons_of_mem _ h, fun e => hn.1 (List.mem_map.2 ⟨p, h, e⟩)⟩
    · rw [if_neg e] at h
      rcases List.mem_cons.1 h with h | h
      · exact .inr (by rw [h]; exact ⟨by simp, e⟩)
      · rcases ih hn.2 h with h | ⟨h, h'⟩
        · exact .inl h
        · exact .inr ⟨List.mem_cons_of_mem _ h, h'⟩
theorem mput_self {l : List (K × α)} {x : K} {v : α} (h : mget l x = some v) : mput l x v = l := by
  induction l with
  | nil => simp [mget] at h
  | cons q r ih =>
    obtain ⟨y, u⟩ := q
    unfold mget at h
    unfold mput
    by_cases e : y = x
    · rw [if_pos e] at h ⊢; cases h; rfl
    · rw [if_neg e] at h ⊢; rw [ih h]
theorem mput_len_same {l : List (K × α)} {x : K} {u v : α} (h : mget l x = some u) : (mput l x v).length = l.length := by
  induction l with
  | nil => simp [mget] at h
  | cons q r ih =>
    obtain ⟨y, z⟩ := q
    unfold mget at h
    unfold mput
    by_cases e : y = x
    · rw [if_pos e]; rfl
    · rw [if_neg e] at h ⊢; simp [ih h]
end
theorem mapC_keys (cl : List (Int × ClT)) : (mapC cl).map (·.1) = cl.map (·.1) := by simp [mapC, List.map_map, Function.comp_def]
theorem mapK_keys (cn : List (Int × CnT)) : (mapK cn).map (·.1) = cn.map (·.1) := by simp [mapK, List.map_map, Function.comp_def]

/-- What is told of a book. -/
structure BM where
  mine : Int → List (ByteArray × ByteArray)
  nm : List (ByteArray × ByteArray)
  order : Int → List ByteArray
def upd {α : Type} (f : Int → α) (c : Int) (v : α) : Int → α := fun x => if c = x then v else f x
def mineOf (cl : List (Int × ClT)) (c : Int) : List (ByteArray × ByteArray) := match mget cl c with | some t => t.l | none => []
def orderOf (cn : List (Int × CnT)) (c : Int) : List ByteArray := match mget cn c with | some t => t.order | none => []
theorem mineOf_put (cl : List (Int × ClT)) (c : Int) (t : ClT) : mineOf (mput cl c t) = upd (mineOf cl) c t.l := by
  funext x
  unfold mineOf upd
  rw [mget_mput]
  by_cases h : c = x <;> simp [h]
theorem mineOf_del (cl : List (Int × ClT)) (c : Int) : mineOf (mdel cl c) = upd (mineOf cl) c [] := by
  funext x
  unfold mineOf upd
  rw [mget_mdel]
  by_cases h : c = x <;> simp [h]
theorem orderOf_put (cn : List (Int × CnT)) (c : Int) (t : CnT) : orderOf (mput cn c t) = upd (orderOf cn) c t.order := by
  funext x
  unfold orderOf upd
  rw [mget_mput]
  by_cases h : c = x <;> simp [h]
theorem orderOf_del (cn : List (Int × CnT)) (c : Int) : orderOf (mdel cn c) = upd (orderOf cn) c [] := by
  funext x
  unfold orderOf upd
  rw [mget_mdel]
  by_cases h : c = x <;> simp [h]

structure Bk (w : World) (own : Own) (pb : Nat) (M : BM) (n : Nat) (bc bn bk : Nat) (cl : List (Int × ClT)) (cn : List (Int × CnT)) : Prop where
  b : BookC w own pb bc bn bk cl M.nm cn
  mine : mineOf cl = M.mine
  order : orderOf cn = M.order
  s1 : cl.length ≤ n
  s2 : cn.length ≤ n
  s3 : M.nm.length ≤ n
  s4 : ∀ r ∈ cl, r.2.l.length ≤ n
  s5 : ∀ r ∈ cn, r.2.order.length ≤ n
  s6 : ∀ r ∈ M.nm, goodS r.2
def BkE (w : World) (own : Own) (pb : Nat) (M : BM) (n : Nat) : Prop := ∃ bc bn bk cl cn, Bk w own pb M n bc bn bk cl cn

section
variable {w w' : World} {own own' : Own} {pb bc bn bk : Nat} {cl : List (Int × ClT)} {nm : List (ByteArray × ByteArray)} {cn : List (Int × CnT)}
theorem BookC.clN (h : BookC w own pb bc bn bk cl nm cn) : (cl.map (·.1)).Nodup := by rw [← mapC_keys]; exact h.mc.nodup
theorem BookC.cnN (h : BookC w own pb bc bn bk cl nm cn) : (cn.map (·.1)).Nodup := by rw [← mapK_keys]; exact h.mcon.nodup
/-- A client's map is turned. -/
theorem BookC.putCl (h : BookC w own pb bc bn bk cl nm cn) {id : Int} {t : ClT} (hm : mget cl id = some t) {l' : List (ByteArray × ByteArray)} (hM : MapT w' t.bl strV goodS (mapS l')) (tt : Touch [t.bl] w w') :
    BookC w' own pb bc bn bk (mput cl id { t with l := l' }) nm cn := by
  have ht := h.cls _ (mget_mem hm)
  have ne : ∀ {i : Nat} {tg : Tag}, own i = some tg → tg ≠ .client id → i ∉ [t.bl] := fun hi hn hmm => by
    simp only [List.mem_cons, List.not_mem_nil, or_false] at hmm
    subst hmm
    rw [ht.own] at hi
    exact hn (by cases hi; rfl)
  have e : mapC (mput cl id { t with l := l' }) = mapC cl := by
    have h1 := mput_map (fun c : ClT => Value.map (some c.bl)) cl id { t with l := l' }
    have h2 : mget (mapC cl) id = some (.map (some t.bl)) := by rw [mget_mapC, hm]; rfl
    exact h1.symm.trans (mput_self h2)
  refine ⟨(tt.block _ (heap_lt h.cells) (ne h.o0 (by simp))).trans h.cells, h.o0, h.o1, h.o2, h.o3, ?_, h.mn.of_block (tt.block _ h.mn.lt (ne h.o2 (by simp))), h.mcon.of_block (tt.block _ h.mcon.lt (ne h.o3 (by simp))), fun r hr => ?_, fun r hr => ?_, fun i tg hi => Nat.lt_of_lt_of_le (h.lt i tg hi) tt.size⟩
  · rw [e]; exact h.mc.of_block (tt.block _ h.mc.lt (ne h.o1 (by simp)))
  · rcases mput_mem3 h.clN hr with rfl | ⟨hr', hne⟩
    · exact ⟨hM, ht.own⟩
    · refine (h.cls r hr').keptT tt (fun i hi => .inl ?_) fun _ _ _ => rfl
      simp only [List.mem_cons, List.not_mem_nil, or_false] at hi
      subst hi
      rw [ht.own]
      simp only [ne_eq, Option.some.injEq, Tag.client.injEq]
      exact fun e => hne e.symm
  · refine (h.cns r hr).keptT tt (fun i hi => .inl fun k => ?_) fun _ _ _ => rfl
    simp only [List.mem_cons, List.not_mem_nil, or_false] at hi
    subst hi
    rw [ht.own]; simp
/-- A client's map is made. -/
theorem BookC.newCl (h : BookC w own pb bc bn bk cl nm cn) {id : Int} {g : Nat} (hg : own g = none) {w' : World} (hM : MapT w' g strV goodS []) (hC : MapT w' bc intV goodI (mput (mapC cl) id (.map (some g)))) (tt : Touch [bc] w w') :
    BookC w' (addO own g (.client id)) pb bc bn bk (mput cl id ⟨g, []⟩) nm cn := by
  have old : ∀ i, own i ≠ none → addO own g (.client id) i = own i := fun i hi => addO_old (fun e => hi (by rw [e]; exact hg))
  have ne : ∀ {i : Nat} {tg : Tag}, own i = some tg → tg ≠ .book 1 → i ∉ [bc] := fun hi hn hmm => by
    simp only [List.mem_cons, List.not_mem_nil, or_false] at hmm
    subst hmm
    rw [h.o1] at hi
    exact hn (by cases hi; rfl)
  refine ⟨(tt.block _ (heap_lt h.cells) (ne h.o0 (by simp))).trans h.cells, by rw [old _ (by rw [h.o0]; simp)]; exact h.o0, by rw [old _ (by rw [h.o1]; simp)]; exact h.o1, by rw [old _ (by rw [h.o2]; simp)]; exact h.o2, by rw [old _ (by rw [h.o3]; simp)]; exact h.o3,
    hC.of_eq (mput_map (fun c : ClT => Value.map (some c.bl)) cl id ⟨g, []⟩), h.mn.of_block (tt.block _ h.mn.lt (ne h.o2 (by simp))), h.mcon.of_block (tt.block _ h.mcon.lt (ne h.o3 (by simp))), fun r hr => ?_, fun r hr => ?_, fun i tg hi => ?_⟩
  · rcases mput_mem3 h.clN hr with rfl | ⟨hr', hne⟩
    · exact ⟨hM, addO_same _ _ _⟩
    · refine (h.cls r hr').keptT tt (fun i hi => .inl ?_) fun i _ hi => old i hi
      simp only [List.mem_cons, List.not_mem_nil, or_false] at hi
      subst hi
      rw [h.o1]; simp
  · refine (h.cns r hr).keptT tt (fun i hi => .inl fun k => ?_) fun i _ hi => old i hi
    simp only [List.mem_cons, List.not_mem_nil, or_false] at hi
    subst hi
    rw [h.o1]; simp
  · by_cases e : i = g
    · subst e; exact hM.lt
    · rw [addO_old e] at hi
      exact Nat.lt_of_lt_of_le (h.lt i tg hi) tt.size
/-- A client goes. -/
theorem BookC.delCl (h : BookC w own pb bc bn bk cl nm cn) {id : Int} (hC : MapT w' bc intV goodI (mdel (mapC cl) id)) (tt : Touch [bc] w w') : BookC w' own pb bc bn bk (mdel cl id) nm cn := by
  have ne : ∀ {i : Nat} {tg : Tag}, own i = some tg → tg ≠ .book 1 → i ∉ [bc] := fun hi hn hmm => by
    simp only [List.mem_cons, List.not_mem_nil, or_false] at hmm
    subst hmm
    rw [h.o1] at hi
    exact hn (by cases hi; rfl)
  refine ⟨(tt.block _ (heap_lt h.cells) (ne h.o0 (by simp))).trans h.cells, h.o0, h.o1, h.o2, h.o3, hC.of_eq (mdel_map (fun c : ClT => Value.map (some c.bl)) cl id), h.mn.of_block (tt.block _ h.mn.lt (ne h.o2 (by simp))), h.mcon.of_block (tt.block _ h.mcon.lt (ne h.o3 (by simp))), fun r hr => ?_, fun r hr => ?_, fun i tg hi => Nat.lt_of_lt_of_le (h.lt i tg hi) tt.size⟩
  · refine (h.cls r (List.mem_filter.1 hr).1).keptT tt (fun i hi => .inl ?_) fun _ _ _ => rfl
    simp only [List.mem_cons, List.not_mem_nil, or_false] at hi
    subst hi
    rw [h.o1]; simp
  · refine (h.cns r hr).keptT tt (fun i hi => .inl fun k => ?_) fun _ _ _ => rfl
    simp only [List.mem_cons, List.not_mem_nil, or_false] at hi
    subst hi
    rw [h.o1]; simp
theorem there_any (h : BookC w own pb bc bn bk cl nm cn) : Calls Try.prog 26 #[.pointer (some ⟨pb, 0, none⟩)] w fun e w' => e = .returned (.bool true) ∧ w = w' := by
  have c0 := h.c0
  have e1 := run_neq_map_nil (P := Try.prog) w 47 3 48 (some bc) Try.underlying47
  go_enter Try.func26, Try.ntmps26
  go_wp2
  go_ret
  exact ⟨rfl, rfl⟩
/-- Two look-ups in a row. -/
theorem look2 (h : BookC w own pb bc bn bk cl nm cn) {c : Int} (hc : goodI c) {s : ByteArray} (hs : goodS s) :
    ∃ v : Value, (Instr.lookup 47 (.map (some bc)) (.int .i64 c) false).run Try.prog w = .ok v w ∧
      (Instr.lookup 48 v (.string s) true).run Try.prog w = .ok (.tuple (match mget (mineOf cl c) s with | some x => #[.string x, .bool true] | none => #[.string ⟨#[]⟩, .bool false])) w ∧
      ((mget cl c = none ∧ v = .map none) ∨ ∃ t, mget cl c = some t ∧ v = .map (some t.bl)) := by
  unfold mineOf
  cases hm : mget cl c with
  | none =>
    refine ⟨.map none, ?_, ?_, .inl ⟨rfl, rfl⟩⟩
    · exact h.mc.look_miss encI Try.underlying47 (zeroM w) hc (by rw [mget_mapC, hm]; rfl) false
    · simpa [mget] using look_nil w s hs true
  | some t =>
    refine ⟨.map (some t.bl), ?_, ?_, .inr ⟨t, rfl, rfl⟩⟩
    · exact h.mc.look_hit encI Try.underlying47 hc (v := .map (some t.bl)) (by rw [mget_mapC, hm]; rfl) false
    · have ht := (h.cls _ (mget_mem hm)).map
      cases hx : mget t.l s with
      | none => simpa [hx, strV] using ht.look_miss encS Try.underlying48 (zeroS w) hs (by rw [mget_mapS, hx]; rfl) true
      | some x => simpa [hx, strV] using ht.look_hit encS Try.underlying48 hs (v := strV x) (by rw [mget_mapS, hx]; rfl) true
end
end Go.Proofs.Ytjmgookpmngmaad
