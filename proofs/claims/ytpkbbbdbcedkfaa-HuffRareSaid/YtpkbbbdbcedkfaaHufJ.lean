/- The plain law of the document's Once: each putting together adds one to the depth of each symbol of it. No program in sight. -/
import Derived.Test.YtpkbbbdbcedkfaaHufQ
namespace Go.Proofs.Ytpkbbbdbcedkfaa

def dep : HT → Nat → Int
  | .leaf _ _, _ => 0
  | .node l r, s => if s ∈ syms l then dep l s + 1 else if s ∈ syms r then dep r s + 1 else 0
theorem dep_zero {t : HT} {s : Nat} (h : s ∉ syms t) : dep t s = 0 := by
  cases t with
  | leaf w n => rfl
  | node l r =>
    rw [syms, List.mem_append, not_or] at h
    rw [dep, if_neg h.1, if_neg h.2]
theorem dep_node {a b : HT} (hnd : (syms a ++ syms b).Nodup) (s : Nat) : dep (.node a b) s = dep a s + dep b s + if s ∈ syms a ++ syms b then 1 else 0 := by
  have h := List.nodup_append.1 hnd
  rw [dep]
  by_cases ha : s ∈ syms a
  · have hb : s ∉ syms b := fun hb => h.2.2 s ha s hb rfl
    rw [if_pos ha, dep_zero hb, if_pos (List.mem_append_left _ ha)]; omega
  · rw [if_neg ha, dep_zero ha]
    by_cases hb : s ∈ syms b
    · rw [if_pos hb, if_pos (List.mem_append_right _ hb)]; omega
    · rw [if_neg hb, dep_zero hb, if_neg (by rw [List.mem_append]; exact fun q => q.elim ha hb)]; omega
theorem mark_dep (t : HT) : ∀ (d : Int) (L : List Int), (syms t).Nodup → (∀ s ∈ syms t, s < L.length) → ∀ s ∈ syms t, (markL t d L)[s]? = some (d + dep t s) := by
  induction t with
  | leaf w n =>
    intro d L _ hs s h
    obtain rfl := List.mem_singleton.1 (show s ∈ [n] from h)
    rw [markL, List.getElem?_set_self (hs s h)]
    show _ = some (d + 0); rw [Int.add_zero]
  | node l r ihl ihr =>
    intro d L hnd hs s h
    have hnd' := List.nodup_append.1 (show (syms l ++ syms r).Nodup from hnd)
    rw [markL]
    by_cases hr : s ∈ syms r
    · have hl : s ∉ syms l := fun hl => hnd'.2.2 s hl s hr rfl
      rw [ihr (d + 1) _ hnd'.2.1 (fun s q => by rw [markL_length]; exact hs s (by rw [syms]; exact List.mem_append_right _ q)) s hr, dep, if_neg hl, if_pos hr]
      congr 1; omega
    · have hl : s ∈ syms l := by
        rcases List.mem_append.1 (show s ∈ syms l ++ syms r from h) with q | q
        · exact q
        · exact absurd q hr
      rw [markL_other r _ _ s hr, ihl (d + 1) _ hnd'.1 (fun s q => hs s (by rw [syms]; exact List.mem_append_left _ q)) s hl, dep, if_pos hl]
      congr 1; omega
/-- The depths of all symbols, in a list of trees. -/
def depF (F : List HT) (s : Nat) : Int := (F.map fun t => dep t s).sum
theorem depF_cons (t : HT) (F : List HT) (s : Nat) : depF (t :: F) s = dep t s + depF F s := by simp [depF]
theorem depF_perm {F G : List HT} (h : F.Perm G) (s : Nat) : depF F s = depF G s := by
  induction h with
  | nil => rfl
  | cons x _ ih => rw [depF_cons, depF_cons, ih]
  | swap x y l => rw [depF_cons, depF_cons, depF_cons, depF_cons]; omega
  | trans _ _ ih1 ih2 => exact ih1.trans ih2
theorem depF_init (f : List Int) (s : Nat) : depF (initT f) s = 0 := by
  have : ∀ G : List HT, (∀ t ∈ G, dep t s = 0) → depF G s = 0 := by
    intro G
    induction G with
    | nil => intro _; rfl
    | cons t G ih => intro h; rw [depF_cons, h t (List.mem_cons_self ..), ih fun x hx => h x (List.mem_cons_of_mem _ hx)]; rfl
  exact this _ fun t ht => by obtain ⟨i, _, _, rfl⟩ := initT_mem.1 ht; rfl
/-- The list of depths of a list of trees. -/
def depsL (F : List HT) (n : Nat) : List Int := (List.range n).map (depF F)
theorem depsL_length (F : List HT) (n : Nat) : (depsL F n).length = n := by simp [depsL]
theorem depsL_init (f : List Int) (n : Nat) : depsL (initT f) n = List.replicate n 0 := by
  apply List.ext_getElem
  · simp [depsL]
  · intro i h1 h2; simp [depsL, depF_init]
theorem depsL_perm {F G : List HT} (h : F.Perm G) (n : Nat) : depsL F n = depsL G n := List.map_congr_left fun s _ => depF_perm h s
/-- One tree: its depths. -/
theorem depsL_one {T : HT} {n : Nat} (hnd : (syms T).Nodup) (hs : ∀ s ∈ syms T, s < n) : depsL [T] n = markL T 0 (List.replicate n 0) := by
  apply List.ext_getElem?
  intro s
  by_cases hsn : s < n
  · have e : (depsL [T] n)[s]? = some (dep T s) := by simp [depsL, hsn, depF]
    rw [e]
    by_cases h : s ∈ syms T
    · rw [mark_dep T 0 _ hnd (fun s q => by rw [List.length_replicate]; exact hs s q) s h, Int.zero_add]
    · rw [markL_other T 0 _ s h, List.getElem?_replicate, if_pos hsn, dep_zero h]
  · rw [List.getElem?_eq_none (by rw [depsL_length]; omega), List.getElem?_eq_none (by rw [markL_length, List.length_replicate]; omega)]
/-- One more for each of the symbols. -/
def incTo (L : List Int) : List Nat → List Int
  | [] => L
  | s :: ss => incTo (L.set s (L[s]?.getD 0 + 1)) ss
theorem incTo_snoc (ss : List Nat) : ∀ (L : List Int) (s : Nat), incTo L (ss ++ [s]) = (incTo L ss).set s ((incTo L ss)[s]?.getD 0 + 1) := by
  induction ss with
  | nil => intro L s; rfl
  | cons x ss ih => intro L s; rw [List.cons_append, incTo, ih, incTo]
theorem incTo_length (ss : List Nat) : ∀ L : List Int, (incTo L ss).length = L.length := by
  induction ss with
  | nil => intro L; rfl
  | cons x ss ih => intro L; rw [incTo, ih, List.length_set]
theorem incTo_at (ss : List Nat) : ∀ (L : List Int), ss.Nodup → ∀ s, s < L.length → (incTo L ss)[s]?.getD 0 = L[s]?.getD 0 + if s ∈ ss then 1 else 0 := by
  induction ss with
  | nil => intro L _ s _; simp [incTo]
  | cons x ss ih =>
    intro L hnd s hs
    obtain ⟨h1, h2⟩ := List.nodup_cons.1 hnd
    rw [incTo, ih _ h2 s (by rw [List.length_set]; exact hs)]
    by_cases e : x = s
    · subst e
      rw [List.getElem?_set_self hs, Option.getD_some, if_neg h1, if_pos (List.mem_cons_self ..)]; omega
    · rw [List.getElem?_set_ne e]
      by_cases hm : s ∈ ss
      · rw [if_pos hm, if_pos (List.mem_cons_of_mem _ hm)]
      · rw [if_neg hm, if_neg (by rw [List.mem_cons]; exact fun q => q.elim (fun q => e q.symm) hm)]
theorem depsL_node {a b : HT} {R : List HT} {n : Nat} (hnd : (syms a ++ syms b).Nodup) : incTo (depsL (a :: b :: R) n) (syms a ++ syms b) = depsL (.node a b :: R) n := by
  apply List.ext_getElem?
  intro s
  by_cases hsn : s < n
  · have h := incTo_at (syms a ++ syms b) (depsL (a :: b :: R) n) hnd s (by rw [depsL_length]; exact hsn)
    have hl : s < (incTo (depsL (a :: b :: R) n) (syms a ++ syms b)).length := by rw [incTo_length, depsL_length]; exact hsn
    have e1 : (depsL (a :: b :: R) n)[s]? = some (dep a s + (dep b s + depF R s)) := by
      simp only [depsL, List.getElem?_map, List.getElem?_range hsn, Option.map_some, depF_cons]
    have e2 : (depsL (.node a b :: R) n)[s]? = some (dep (.node a b) s + depF R s) := by
      simp only [depsL, List.getElem?_map, List.getElem?_range hsn, Option.map_some, depF_cons]
    rw [e1, Option.getD_some, List.getElem?_eq_getElem hl, Option.getD_some] at h
    rw [e2, List.getElem?_eq_getElem hl, h, dep_node hnd]
    congr 1; omega
  · rw [List.getElem?_eq_none (by rw [incTo_length, depsL_length]; omega), List.getElem?_eq_none (by rw [depsL_length]; omega)]
end Go.Proofs.Ytpkbbbdbcedkfaa
