/-
  A map that a call makes, as a list of keys and values in the order in which the keys came: looking a key up, and storing.
  Conditions: the keys are encoded data that can be keys of the map's type; no key stands there twice.
-/
import Derived.Test.YtclhcfmlkfiidaaOwn
import Derived.Maps.Own
import Derived.DeepKeys4
namespace Go.Proofs.Ytclhcfmlkfiidaa
open Go.RowKit Go.Maps

section
variable {α : Type} [DecidableEq α]
def look (a : α) : List (α × Value) → Option Value
  | [] => none
  | (b, v) :: L => if a = b then some v else look a L
def upd (a : α) (v : Value) : List (α × Value) → List (α × Value)
  | [] => [(a, v)]
  | (b, u) :: L => if a = b then (a, v) :: L else (b, u) :: upd a v L
theorem look_miss {a : α} {L : List (α × Value)} (h : ∀ p ∈ L, p.1 ≠ a) : look a L = none := by
  induction L with
  | nil => rfl
  | cons p L ih =>
    obtain ⟨b, v⟩ := p
    unfold look
    rw [if_neg (fun e => h (b, v) (by simp) e.symm)]
    exact ih fun q hq => h q (by simp [hq])
theorem look_hit {a : α} {v : Value} {L : List (α × Value)} (hn : (L.map (·.1)).Nodup) {j : Nat} (h : L[j]? = some (a, v)) : look a L = some v := by
  induction L generalizing j with
  | nil => simp at h
  | cons p L ih =>
    obtain ⟨b, u⟩ := p
    unfold look
    simp only [List.map_cons, List.nodup_cons] at hn
    cases j with
    | zero =>
      simp at h
      rw [if_pos h.1.symm, h.2]
    | succ j =>
      simp at h
      have hm : a ∈ L.map (·.1) := by
        have := List.mem_of_getElem? h
        exact List.mem_map.2 ⟨_, this, rfl⟩
      rw [if_neg (fun e : a = b => hn.1 (by rw [← e]; exact hm))]
      exact ih hn.2 h
theorem upd_miss {a : α} {v : Value} {L : List (α × Value)} (h : ∀ p ∈ L, p.1 ≠ a) : upd a v L = L ++ [(a, v)] := by
  induction L with
  | nil => rfl
  | cons p L ih =>
    obtain ⟨b, u⟩ := p
    unfold upd
    rw [if_neg (fun e => h (b, u) (by simp) e.symm), ih fun q hq => h q (by simp [hq])]
    rfl
theorem upd_hit {a : α} {u v : Value} {L : List (α × Value)} (hn : (L.map (·.1)).Nodup) {j : Nat} (h : L[j]? = some (a, u)) : upd a v L = L.set j (a, v) := by
  induction L generalizing j with
  | nil => simp at h
  | cons p L ih =>
    obtain ⟨b, t⟩ := p
    unfold upd
    simp only [List.map_cons, List.nodup_cons] at hn
    cases j with
    | zero =>
      simp at h
      rw [if_pos h.1.symm]
      rfl
    | succ j =>
      simp at h
      have hm : a ∈ L.map (·.1) := by
        have := List.mem_of_getElem? h
        exact List.mem_map.2 ⟨_, this, rfl⟩
      rw [if_neg (fun e : a = b => hn.1 (by rw [← e]; exact hm)), ih hn.2 h]
      rfl
theorem look_upd (a b : α) (v : Value) (L : List (α × Value)) : look a (upd b v L) = if a = b then some v else look a L := by
  induction L with
  | nil => simp [upd, look]
  | cons p L ih =>
    obtain ⟨c, u⟩ := p
    unfold upd
    by_cases h : b = c
    · rw [if_pos h]
      subst h
      by_cases h2 : a = b <;> simp [look, h2]
    · rw [if_neg h]
      by_cases h2 : a = c
      · subst h2
        have h3 : ¬ a = b := fun e => h e.symm
        simp [look, h3]
      · simp [look, h2, ih]
theorem keys_upd_mem {a : α} {v : Value} {L : List (α × Value)} {b : α} : b ∈ (upd a v L).map (·.1) ↔ b = a ∨ b ∈ L.map (·.1) := by
  induction L with
  | nil => simp [upd]
  | cons p L ih =>
    obtain ⟨c, u⟩ := p
    unfold upd
    by_cases h : a = c
    · rw [if_pos h]; subst h; simp
    · rw [if_neg h]
      simp only [List.map_cons, List.mem_cons, ih]
      constructor
      · rintro (h | h | h) <;> simp [h]
      · rintro (h | h | h) <;> simp [h]
theorem nodup_upd {a : α} {v : Value} {L : List (α × Value)} (hn : (L.map (·.1)).Nodup) : ((upd a v L).map (·.1)).Nodup := by
  induction L with
  | nil => simp [upd]
  | cons p L ih =>
    obtain ⟨c, u⟩ := p
    simp only [List.map_cons, List.nodup_cons] at hn
    unfold upd
    by_cases h : a = c
    · rw [if_pos h]; subst h; simpa using hn
    · rw [if_neg h]
      simp only [List.map_cons, List.nodup_cons]
      refine ⟨fun hm => ?_, ih hn.2⟩
      rcases keys_upd_mem.1 hm with e | e
      · exact h e.symm
      · exact hn.1 e
theorem look_isSome {a : α} {L : List (α × Value)} : (look a L).isSome = true ↔ a ∈ L.map (·.1) := by
  induction L with
  | nil => simp [look]
  | cons p L ih =>
    obtain ⟨c, u⟩ := p
    unfold look
    by_cases h : a = c
    · simp [h]
    · simp [h, ih]

/-- Block b is a map whose entries are L, each key encoded by enc. -/
def MapL (P : Program) (kt : TypeId) (enc : α → Value) (w : World) (b : Nat) (L : List (α × Value)) : Prop :=
  (L.map (·.1)).Nodup ∧ (∀ p ∈ L, ∃ l, keyOf P kt (enc p.1) = some l) ∧
  ∃ es clock, w.heap[b]? = some (.map es clock) ∧ es.toList.map (fun e => (e.key, e.val)) = L.map fun p => (enc p.1, p.2)

variable {P : Program} {kt : TypeId} {enc : α → Value} {w : World} {b : Nat} {L : List (α × Value)}
omit [DecidableEq α] in
theorem MapL.lt (h : MapL P kt enc w b L) : b < w.heap.size := by
  obtain ⟨_, _, es, clock, hb, _⟩ := h
  exact (Array.getElem?_eq_some_iff.1 hb).1
omit [DecidableEq α] in
theorem MapL.kept {w' : World} (h : MapL P kt enc w b L) (hk : w'.heap[b]? = w.heap[b]?) : MapL P kt enc w' b L := by
  obtain ⟨h1, h2, es, clock, hb, h3⟩ := h
  exact ⟨h1, h2, es, clock, hk.trans hb, h3⟩
omit [DecidableEq α] in
theorem MapL.below {w' : World} (h : MapL P kt enc w b L) (hb : Below w.heap.size w w') : MapL P kt enc w' b L := h.kept (hb.block b h.lt)
omit [DecidableEq α] in
theorem MapL.made (w : World) : MapL P kt enc (w.alloc (.map #[] 0)) w.heap.size ([] : List (α × Value)) :=
  ⟨by simp, by simp, #[], 0, heap_alloc_new w _, rfl⟩

omit [DecidableEq α] in
theorem pair_at {es : List MapEntry} {L : List (α × Value)} (h : es.map (fun e => (e.key, e.val)) = L.map fun p => (enc p.1, p.2)) {j : Nat} {e : MapEntry} (he : es[j]? = some e) :
    ∃ p, L[j]? = some p ∧ e.key = enc p.1 ∧ e.val = p.2 := by
  have h1 := congrArg (fun l => l[j]?) h
  simp only [List.getElem?_map, he, Option.map_some] at h1
  cases hp : L[j]? with
  | none => rw [hp] at h1; simp at h1
  | some p =>
    rw [hp] at h1
    simp at h1
    exact ⟨p, rfl, h1.1, h1.2⟩

theorem MapL.find (h : MapL P kt enc w b L) (K : Keyed P kt) (hi : ∀ x y : α, enc x = enc y → x = y) {a : α} {l : Lit} (ha : keyOf P kt (enc a) = some l) {es : Array MapEntry} {clock : Nat} (hb : w.heap[b]? = some (.map es clock)) :
    ((Instr.findKey kt (enc a) es.toList).run P w = .ok none w ∧ look a L = none ∧ ∀ p ∈ L, p.1 ≠ a) ∨
      ∃ j v, (Instr.findKey kt (enc a) es.toList).run P w = .ok (some (j, v)) w ∧ L[j]? = some (a, v) ∧ look a L = some v := by
  obtain ⟨h1, h2, es', clock', hb', h3⟩ := h
  rw [hb] at hb'
  simp only [Option.some.injEq, Obj.map.injEq] at hb'
  obtain ⟨rfl, rfl⟩ := hb'
  have hall : ∀ e ∈ es.toList, ∃ l, keyOf P kt e.key = some l := fun e he => by
    obtain ⟨j, hj, rfl⟩ := List.mem_iff_getElem.1 he
    obtain ⟨p, hp, hk, _⟩ := pair_at h3 (j := j) (e := es.toList[j]) (by simp)
    rw [hk]
    exact h2 p (List.mem_of_getElem? hp)
  rcases K.find w ha es.toList hall with ⟨hr, hne⟩ | ⟨j, e, hr, hj, hk⟩
  · have hm : ∀ p ∈ L, p.1 ≠ a := fun p hp hpa => by
      have hmem : (enc p.1, p.2) ∈ L.map fun p => (enc p.1, p.2) := List.mem_map.2 ⟨p, hp, rfl⟩
      rw [← h3] at hmem
      obtain ⟨e, he, heq⟩ := List.mem_map.1 hmem
      simp only [Prod.mk.injEq] at heq
      exact hne e he (by rw [heq.1, hpa])
    exact .inl ⟨hr, look_miss hm, hm⟩
  · obtain ⟨p, hp, hpk, hpv⟩ := pair_at h3 hj
    have hpa : p.1 = a := hi _ _ (by rw [← hpk, hk])
    have hpj : L[j]? = some (a, e.val) := by rw [hp, ← hpa, hpv]
    exact .inr ⟨j, e.val, hr, hpj, look_hit h1 hpj⟩

/-- 'm[k]': the element, or the zero value; with 'ok': whether it is there. -/
theorem MapL.lookup (h : MapL P kt enc w b L) (K : Keyed P kt) (hi : ∀ x y : α, enc x = enc y → x = y) {t e : TypeId} (ht : P.underlying t = some (.map kt e)) {z : Value} (hz : (zeroValue e).run P w = .ok z w)
    {a : α} {l : Lit} (ha : keyOf P kt (enc a) = some l) : (Instr.lookup t (.map (some b)) (enc a) false).run P w = .ok ((look a L).getD z) w := by
  obtain ⟨es, clock, hb, -⟩ := h.2.2
  have hc := K.check w es.isEmpty ha
  rcases h.find K hi ha hb with ⟨hr, hl, -⟩ | ⟨j, v, hr, -, hl⟩
  · rw [hl]
    simp [Instr.lookup, run_underlying ht, getObj, hb, hc, hr, hz, Result.andThen, Sem.run]
  · rw [hl]
    simp [Instr.lookup, run_underlying ht, getObj, hb, hc, hr, Result.andThen, Sem.run]
theorem MapL.lookupOk (h : MapL P kt enc w b L) (K : Keyed P kt) (hi : ∀ x y : α, enc x = enc y → x = y) {t e : TypeId} (ht : P.underlying t = some (.map kt e)) {z : Value} (hz : (zeroValue e).run P w = .ok z w)
    {a : α} {l : Lit} (ha : keyOf P kt (enc a) = some l) : (Instr.lookup t (.map (some b)) (enc a) true).run P w = .ok (.tuple #[(look a L).getD z, .bool (look a L).isSome]) w := by
  obtain ⟨es, clock, hb, -⟩ := h.2.2
  have hc := K.check w es.isEmpty ha
  rcases h.find K hi ha hb with ⟨hr, hl, -⟩ | ⟨j, v, hr, -, hl⟩
  · rw [hl]
    simp [Instr.lookup, run_underlying ht, getObj, hb, hc, hr, hz, Result.andThen, Sem.run]
  · rw [hl]
    simp [Instr.lookup, run_underlying ht, getObj, hb, hc, hr, Result.andThen, Sem.run]

/-- 'm[k] = v'. -/
theorem MapL.store (h : MapL P kt enc w b L) (K : Keyed P kt) (hi : ∀ x y : α, enc x = enc y → x = y) {t e : TypeId} (ht : P.underlying t = some (.map kt e))
    {a : α} {l : Lit} (ha : keyOf P kt (enc a) = some l) (v : Value) : ∃ w', (Instr.mapUpdate t (.map (some b)) (enc a) v).run P w = .ok () w' ∧ MapL P kt enc w' b (upd a v L) ∧ w.grownBy w' (some b) := by
  have h' := h
  obtain ⟨h1, h2, es, clock, hb, h3⟩ := h
  have hc := K.check w false ha
  have hlt := (Array.getElem?_eq_some_iff.1 hb).1
  have hkeys : ∀ p ∈ upd a v L, ∃ l, keyOf P kt (enc p.1) = some l := fun p hp => by
    rcases keys_upd_mem.1 (List.mem_map.2 ⟨p, hp, rfl⟩ : p.1 ∈ (upd a v L).map (·.1)) with e | e
    · rw [e]; exact ⟨l, ha⟩
    · obtain ⟨q, hq, hqe⟩ := List.mem_map.1 e
      rw [← hqe]
      exact h2 q hq
  have hgrow : ∀ o : Obj, w.grownBy { w with heap := w.heap.setIfInBounds b o } (some b) := fun o =>
    ⟨rfl, rfl, rfl, by simp, fun k _ hk => by
      show (w.heap.setIfInBounds b o)[k]? = _
      rw [Array.getElem?_setIfInBounds_ne (fun e => hk (by rw [e]))]⟩
  have hnew : ∀ o : Obj, (w.heap.setIfInBounds b o)[b]? = some o := fun o => by simp [hlt]
  rcases h'.find K hi ha hb with ⟨hr, hl, hm⟩ | ⟨j, u, hr, hj, hl⟩
  · refine ⟨{ w with heap := w.heap.setIfInBounds b (.map (es.push { key := enc a, val := v, born := clock }) (clock + 1)) }, ?_, ⟨nodup_upd h1, hkeys, _, _, hnew _, ?_⟩, hgrow _⟩
    · simp [Instr.mapUpdate, run_underlying ht, getObj, hb, hc, hr, setObj, Result.andThen, Sem.run]
    · rw [upd_miss hm]
      simp [h3]
  · have hs := K.stays w ha
    have hje : ∃ e, es[j]? = some e ∧ e.key = enc a := by
      have h4 := congrArg (fun l => l[j]?) h3
      simp only [List.getElem?_map, hj, Option.map_some] at h4
      cases he : es.toList[j]? with
      | none => rw [he] at h4; simp at h4
      | some e =>
        rw [he] at h4
        simp at h4
        exact ⟨e, by simpa using he, h4.1⟩
    obtain ⟨e, hje, hek⟩ := hje
    refine ⟨{ w with heap := w.heap.setIfInBounds b (.map (es.modify j fun e => { e with key := enc a, val := v }) clock) }, ?_, ⟨nodup_upd h1, hkeys, _, _, hnew _, ?_⟩, hgrow _⟩
    · simp [Instr.mapUpdate, run_underlying ht, getObj, hb, hc, hr, hje, hek, hs, setObj, Result.andThen, Sem.run]
    · rw [upd_hit h1 hj]
      apply List.ext_getElem?
      intro i
      have h4 := congrArg (fun l => l[i]?) h3
      simp only [List.getElem?_map] at h4 ⊢
      by_cases hij : j = i
      · subst hij
        have hjl : j < L.length := (List.getElem?_eq_some_iff.1 hj).1
        have hjes : j < es.size := (Array.getElem?_eq_some_iff.1 hje).1
        simp [hjl, hjes]
      · simp only [List.getElem?_set_ne hij]
        rw [← h4]
        simp [hij]
theorem wpList_mapStore {ops : Array Oper} {rest : List Oper} {o : Oper} {act : Act} {Q : Exit → Act → World → Prop} (hg : o.guard = none) (m x v : Operand) (t : TypeId) (hop : o.op = Op.mapUpdate t m x v)
    (h : MapL P kt enc w b L) (K : Keyed P kt) (hi : ∀ x y : α, enc x = enc y → x = y) {e : TypeId} (ht : P.underlying t = some (.map kt e)) (a : α) (l : Lit) (ha : keyOf P kt (enc a) = some l) (val : Value)
    (hm : act.eval m = .map (some b)) (hx : act.eval x = enc a) (hv : act.eval v = val)
    (hK : ∀ w', MapL P kt enc w' b (upd a val L) → w.grownBy w' (some b) → wpList P ops Q rest (act.put o.dst undef) w') : wpList P ops Q (o :: rest) act w := by
  refine wpList_plain hg fun K' hK' => ?_
  obtain ⟨w', hrun, r1, r2⟩ := h.store K hi ht ha val
  unfold Oper.wp
  simp [execOp, hop, hm, hx, hv, hrun, Result.andThen]
  exact hK' _ _ (hK w' r1 r2)
end
end Go.Proofs.Ytclhcfmlkfiidaa
