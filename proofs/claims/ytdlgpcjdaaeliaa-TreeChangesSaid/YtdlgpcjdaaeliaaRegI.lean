/- A drawn region inside a fence walked by hand, with one condition on the worlds: a load may be taken first where no operation turns what it reads. (The fenced twin of the kit's law on held worlds: its proof turned, for want of one.) No condition. -/
import Derived.OrdersIn
import Derived.OrdersHeld
import Derived.Lib.Hide
import Derived.WalkKit
import Derived.OwnWalkIn
import Derived.Maps.AppendAt
namespace Go.Proofs.Ytdlgpcjdaaeliaa
open Go.RowKit

section
variable {F : Fence} {n : Nat} {P : Program} {ops : Array Oper} {Q : Exit → Act → World → Prop} {md : Region.Mode} {S : World → Prop}

/-- In each world that meets S it leaves v, and it is about to make no call. -/
def YldI (P : Program) (ops : Array Oper) (S : World → Prop) (o : Oper) (v : Value) (a : Act) : Prop := YieldsIf P ops S o v a ∧ ∀ w, o.about P w a.eval = none

theorem yldI_op {i : Nat} {o : Oper} {v : Value} {a : Act} (hro : ∀ c, o.op ≠ .defer c) (hi : ops[i]? = some o) (hy : YldI P ops S o v a) {K : Act → World → Prop} {w : World} (hS : S w) (h : K (a.put o.dst v) w) : wpOpIn F n P ops Q i K a w := by
  unfold wpOpIn
  simp only [hi]
  have hab : ∀ f, o.about P w a.eval = some f → F.fn f := fun f hf => by rw [hy.2 w] at hf; cases hf
  rcases hy.1 with ⟨hw, hv⟩ | ⟨hw, rfl⟩
  · simp only [hw, if_true, Oper.wpIn, Oper.semAt_plain F _ o hro, hv w hS, Oper.uponIn]; exact ⟨hab, h⟩
  · simp only [hw, Bool.false_eq_true, if_false]; exact ⟨hab, h⟩
theorem yldI_same {o : Oper} {v : Value} {a a' : Act} (hy : YldI P ops S o v a) (he : execOp a'.eval o = execOp a.eval o) (hw : Region.wanted o (yielded ops a'.tmps) = Region.wanted o (yielded ops a.tmps)) (hb : ∀ w, o.about P w a'.eval = o.about P w a.eval) : YldI P ops S o v a' :=
  ⟨hy.1.of_same he hw, fun w => by rw [hb w]; exact hy.2 w⟩

theorem wpOpIn_putH {j : Nat} {oi oj : Oper} {v : Value} (hro : ∀ c, oj.op ≠ .defer c) (hj : ops[j]? = some oj) (hap : oi.apart ops oj = true)
    (hsi : ∀ cs b, oi.op ≠ .select cs b) (hsj : ∀ cs b, oj.op ≠ .select cs b)
    (hQ : ∀ c a w, Q (.panic c) (a.put oi.dst v) w → Q (.panic c) a w) {K : Act → World → Prop} {a : Act} {w : World}
    (hy : YldI P ops S oi v a) (h : wpOpIn F n P ops Q j K (a.put oi.dst v) w) : wpOpIn F n P ops Q j (fun a' w' => YldI P ops S oi v a' ∧ K (a'.put oi.dst v) w') a w := by
  obtain ⟨h1, h2, h3⟩ := Oper.apart_spec hap
  have keep : ∀ (a : Act), YldI P ops S oi v a → ∀ u, YldI P ops S oi v (a.put oj.dst u) := fun a hy u =>
    yldI_same hy (execOp_put oi hsi a oj.dst u h3) (wanted_put oi a oj.dst u h3) (fun w => about_put oi w a oj.dst u h3)
  have keepD : ∀ d, YldI P ops S oi v { a with defers := d :: a.defers } := fun d => yldI_same hy rfl rfl (fun _ => rfl)
  unfold wpOpIn at *
  simp only [hj] at *
  rw [wanted_put oj a oi.dst v h1, about_put oj w a oi.dst v h1] at h
  split
  · rename_i hw
    simp only [hw, if_true] at h
    unfold Oper.wpIn at *
    rw [about_put oj w a oi.dst v h1] at h
    refine ⟨h.1, ?_⟩
    have h := h.2
    rw [Oper.semAt_plain F _ oj hro, execOp_put oj hsj a oi.dst v h1] at h
    rw [Oper.semAt_plain F _ oj hro]
    generalize (execOp a.eval oj).run P w = r at *
    cases r with
    | ok x w' =>
      cases x <;> simp only [Oper.uponIn] at h ⊢
      case value u => exact ⟨keep a hy u, by rw [← Act.put_comm a v u h2]; exact h⟩
      case skip => exact ⟨keep a hy _, by rw [← Act.put_comm a v undef h2]; exact h⟩
      case defer d =>
        refine ⟨keep _ (keepD d) _, ?_⟩
        rw [← Act.put_comm _ v undef h2, ← Act.put_defers]
        exact h
      case enter f args =>
        refine ⟨h.1, CallsIn.mono h.2 fun e w'' he => ?_⟩
        cases e with
        | returned u => exact ⟨keep a hy u, by rw [← Act.put_comm a v u h2]; exact he⟩
        | panicked c => exact hQ _ _ _ he
        | outgrown => exact he
      case row row args => exact ⟨h.1, RowsIn.mono h.2 fun u w'' he => ⟨keep a hy u, by rw [← Act.put_comm a v u h2]; exact he⟩⟩
      case round l f tmps assign body =>
        refine ⟨h.1, RoundIn.mono h.2 fun e w'' he => ?_⟩
        cases e with
        | returned u => exact ⟨keep a hy u, by rw [← Act.put_comm a v u h2]; exact he⟩
        | panicked c => exact hQ _ _ _ he
        | outgrown => exact he
    | halt x w' =>
      cases x <;> simp only [Oper.uponIn] at h ⊢
      case panic u => exact hQ _ _ _ h
  · rename_i hw
    simp only [hw] at h
    exact ⟨h.1, keep a hy _, by rw [← Act.put_comm a v undef h2]; exact h.2⟩

/-- What has come up has all come up that it waits for. -/
def Clo (md : Region.Mode) (ops : Array Oper) (listed : Array Bool) : Prop := ∀ j oj, ops[j]? = some oj → listed.getD j true = true → ∀ e ∈ oj.after, Region.binds md e = true → listed.getD e.on false = true
/-- All that number j waits for, at so many removes. -/
def ancs (md : Region.Mode) (ops : Array Oper) : Nat → Nat → List Nat
  | 0, _ => []
  | m + 1, j => match ops[j]? with
    | none => []
    | some o => (o.after.toList.filter fun e => Region.binds md e).flatMap fun e => e.on :: ancs md ops m e.on
theorem on_true {listed : Array Bool} {d : Nat} (h : listed.getD d false = true) : listed.getD d true = true := by
  simp only [Array.getD_eq_getD_getElem?] at *
  cases hd : listed[d]? with
  | none => rfl
  | some b => rw [hd] at h; exact h
theorem clo_ancs {listed : Array Bool} (h : Clo md ops listed) : ∀ (m j : Nat) (oj : Oper), ops[j]? = some oj → (∀ e ∈ oj.after, Region.binds md e = true → listed.getD e.on false = true) → ∀ d ∈ ancs md ops m j, listed.getD d false = true := by
  intro m
  induction m with
  | zero => intro j oj _ _ d hd; cases hd
  | succ m ih =>
    intro j oj hj hall d hd
    rw [ancs, hj] at hd
    obtain ⟨e, he, hd⟩ := List.mem_flatMap.1 hd
    obtain ⟨he1, he2⟩ := List.mem_filter.1 he
    have hon := hall e (by simpa using he1) he2
    rcases List.mem_cons.1 hd with rfl | hd
    · exact hon
    · cases ho : ops[e.on]? with
      | none =>
        cases m with
        | zero => cases hd
        | succ m => rw [ancs, ho] at hd; cases hd
      | some o => exact ih e.on o ho (h e.on o ho (on_true hon)) d hd
theorem clo_set {listed : Array Bool} (h : Clo md ops listed) {j : Nat} (hj : j ∈ Region.ready md ops listed) : Clo md ops (listed.setIfInBounds j true) := by
  intro k ok hk hl e he hb
  obtain ⟨_, oj, hoj, hall⟩ := mem_ready.1 hj
  by_cases hkj : j = k
  · subst hkj
    rw [hk] at hoj
    cases hoj
    exact getD_set_true (hall e he hb)
  · rw [getD_set_ne true hkj] at hl
    exact getD_set_true (h k ok hk hl e he hb)

def wpAnyHI (F : Fence) (n : Nat) (P : Program) (md : Region.Mode) (ops : Array Oper) (Q : Exit → Act → World → Prop) (S : World → Prop) (kk : Nat) : Nat → Array Bool → Act → World → Prop
  | 0, listed, a, w => Region.ready md ops listed = [] ∧ Q .normal a w
  | fuel + 1, listed, a, w => (Region.ready md ops listed = [] → Q .normal a w) ∧
    ∀ i ∈ Region.ready md ops listed, wpOpIn F n P ops Q i (fun a' w' => (i < kk → S w') ∧ wpAnyHI F n P md ops Q S kk fuel (listed.setIfInBounds i true) a' w') a w
theorem wpAnyIn_of_HI {kk : Nat} : ∀ (fuel : Nat) (listed : Array Bool) (a : Act) (w : World), wpAnyHI F n P md ops Q S kk fuel listed a w → wpAnyIn F n P md ops Q fuel listed a w
  | 0, _, _, _, h => h
  | fuel + 1, _, _, _, h => ⟨h.1, fun i hi => wpOpIn_mono (fun a' w' h' => wpAnyIn_of_HI fuel _ a' w' h'.2) (h.2 i hi)⟩
theorem wpAnyHI_first {kk m : Nat} {i : Nat} {oi : Oper} {v : Value} (hro : ∀ (j : Nat) (o : Oper) c, ops[j]? = some o → o.op ≠ .defer c) (hi : ops[i]? = some oi) (hsel : ∀ (j : Nat) (o : Oper) cs b, ops[j]? = some o → o.op ≠ .select cs b) (hQ : ∀ c a w, Q (.panic c) (a.put oi.dst v) w → Q (.panic c) a w)
    (hanc : ∀ j, kk ≤ j → j < ops.size → i ∈ ancs md ops m j) :
    ∀ (fuel : Nat) (listed : Array Bool) (a : Act) (w : World), Clo md ops listed →
      (∀ j oj, ops[j]? = some oj → j ≠ i → listed.getD j true = false → (∀ e ∈ oj.after, Region.binds md e = true → e.on ≠ i) → oi.apart ops oj = true) →
      i ∈ Region.ready md ops listed → YldI P ops S oi v a → S w →
      wpAnyHI F n P md ops Q S kk fuel (listed.setIfInBounds i true) (a.put oi.dst v) w → wpAnyHI F n P md ops Q S kk (fuel + 1) listed a w := by
  intro fuel
  induction fuel with
  | zero =>
    intro listed a w _ _ hr hy hS H
    refine ⟨fun h => (by rw [h] at hr; cases hr), fun j hj => ?_⟩
    by_cases hji : j = i
    · subst hji; exact yldI_op (fun c => hro _ _ c hi) hi hy hS ⟨fun _ => hS, H⟩
    · have := ready_mono hj hji
      rw [H.1] at this
      cases this
  | succ fuel ih =>
    intro listed a w hcl hfree hr hy hS H
    refine ⟨fun h => (by rw [h] at hr; cases hr), fun j hj => ?_⟩
    by_cases hji : j = i
    · subst hji; exact yldI_op (fun c => hro _ _ c hi) hi hy hS ⟨fun _ => hS, H⟩
    · have h1 := H.2 j (ready_mono hj hji)
      obtain ⟨hjun, oj, hoj, hall⟩ := mem_ready.1 hj
      have hjk : j < kk := by
        rcases Nat.lt_or_ge j kk with h | h
        · exact h
        · have h2 := on_true (clo_ancs hcl m j oj hoj hall i (hanc j h (Array.getElem?_eq_some_iff.1 hoj).1))
          have h3 := (mem_ready.1 hr).1
          rw [h3] at h2; cases h2
      have hnot : ∀ e ∈ oj.after, Region.binds md e = true → e.on ≠ i := fun e he hb heq => by
        have h1 := hall e he hb
        have h0 := (mem_ready.1 hr).1
        rw [heq] at h1
        rcases Nat.lt_or_ge i listed.size with h' | h'
        · simp [h'] at h0 h1; rw [h0] at h1; cases h1
        · simp [Array.getElem?_eq_none h'] at h1
      have h2 := wpOpIn_putH (fun c => hro _ _ c hoj) hoj (hfree j oj hoj hji hjun hnot) (fun cs b => hsel i oi cs b hi) (fun cs b => hsel j oj cs b hoj) hQ hy h1
      have hfree' : ∀ k ok, ops[k]? = some ok → k ≠ i → (listed.setIfInBounds j true).getD k true = false → (∀ e ∈ ok.after, Region.binds md e = true → e.on ≠ i) → oi.apart ops ok = true := fun k ok hk hki hun hno => by
        refine hfree k ok hk hki ?_ hno
        by_cases hjk : j = k
        · subst hjk; exact hjun
        · rw [getD_set_ne true hjk] at hun; exact hun
      refine wpOpIn_mono (fun a' w' h3 => ⟨fun _ => h3.2.1 hjk, ih (listed.setIfInBounds j true) a' w' (clo_set hcl hj) hfree' (ready_mono hr (Ne.symm hji)) h3.1 (h3.2.1 hjk) ?_⟩) h2
      rw [Array.setIfInBounds_comm _ _ hji]
      exact h3.2.2
end

section
variable {F : Fence} {n : Nat} {P : Program} {l : List Oper} {Q : Exit → Act → World → Prop} {a : Act} {w : World} {S : World → Prop}
def noDefer (l : List Oper) : Bool := l.all fun o => match o.op with | .defer _ => false | _ => true
theorem noDefer_spec {l : List Oper} (h : noDefer l = true) {j : Nat} {o : Oper} (hj : l[j]? = some o) (c : _) : o.op ≠ .defer c := by
  intro e
  have := List.all_eq_true.1 h o (List.mem_of_getElem? hj)
  rw [e] at this
  cases this
theorem clo_start (md : Region.Mode) (ops : Array Oper) : Clo md ops (Array.replicate ops.size false) := by
  intro j oj hj hl
  have := (Array.getElem?_eq_some_iff.1 hj).1
  simp [this] at hl
theorem regi_start {id : Nat} (kk : Nat) (hm : P.follows .mixedOrders = true) (m : Nat) (hn : l.toArray.size = m)
    (h : Clo .any l.toArray (Array.replicate m false) → wpAnyHI F n P .any l.toArray Q S kk m (Array.replicate m false) a w.drew) : (Code.region id l.toArray true).wpIn F n P Q a w := by
  subst hn
  exact wpIn_region_any hm (wpAnyIn_of_HI _ _ _ _ (h (clo_start _ _)))
theorem regi_take {kk : Nat} {fuel : Nat} {listed : Array Bool} {o : Oper} {v : Value} (k m : Nat) (hro : noDefer l = true) (ho : l[k]? = some o) (hs : Region.noSelect l.toArray = true)
    (hf : Region.free .any l.toArray listed k = true) (hr : (Region.ready .any l.toArray listed).contains k = true) (hanc : ((List.range l.toArray.size).all fun j => decide (j < kk) || (ancs .any l.toArray m j).contains k) = true)
    (hQ : ∀ c a w, Q (.panic c) (a.put o.dst v) w → Q (.panic c) a w) (hw : Region.wanted o (yielded l.toArray a.tmps) = true)
    (hy : ∀ w, S w → (execOp a.eval o).run P w = .ok (.value v) w) (hb : ∀ w, o.about P w a.eval = none) (hS : S w) (hcl : Clo .any l.toArray listed)
    (h : Clo .any l.toArray (listed.setIfInBounds k true) → wpAnyHI F n P .any l.toArray Q S kk fuel (listed.setIfInBounds k true) (a.put o.dst v) w) : wpAnyHI F n P .any l.toArray Q S kk (fuel + 1) listed a w := by
  have hr' : k ∈ Region.ready .any l.toArray listed := by simpa using hr
  refine wpAnyHI_first (m := m) (fun j o c hj => noDefer_spec hro (by simpa using hj) c) (by simpa using ho) (Region.noSelect_spec hs) hQ (fun j hj hlt => ?_) fuel listed a w hcl (Region.free_spec (by simpa using ho) hf) hr' ⟨Or.inl ⟨hw, hy⟩, hb⟩ hS (h (clo_set hcl hr'))
  rw [List.all_eq_true] at hanc
  have := hanc j (List.mem_range.2 hlt)
  rw [Bool.or_eq_true, decide_eq_true_eq] at this
  rcases this with h | h
  · omega
  · simpa using h
/-- It must come, at last: run as it comes. -/
theorem regi_call {kk : Nat} {fuel : Nat} {listed : Array Bool} {o : Oper} (k : Nat) (hk : kk ≤ k) (ho : l[k]? = some o) (hr : Region.ready .any l.toArray listed = [k])
    (h : ∀ K' : Act → World → Prop, Hid (∀ a w, wpAnyHI F n P .any l.toArray Q S kk fuel (listed.setIfInBounds k true) a w → K' a w) → if Region.wanted o (yielded l.toArray a.tmps) = true then Oper.wpIn F n P o a w K' Q else (∀ f, o.about P w a.eval = some f → F.fn f) ∧ K' (a.put o.dst undef) w) :
    wpAnyHI F n P .any l.toArray Q S kk (fuel + 1) listed a w := by
  refine ⟨fun h0 => (by rw [hr] at h0; cases h0), fun i hi => ?_⟩
  rw [hr, List.mem_singleton] at hi
  subst hi
  exact wpOpIn_step (by simpa using ho) (fun K' hK => h K' (fun a w hW => hK a w ⟨fun h => by omega, hW⟩))
/-- It must come, and S is to be shown behind it. -/
theorem regi_keep {kk : Nat} {fuel : Nat} {listed : Array Bool} {o : Oper} (k : Nat) (ho : l[k]? = some o) (hr : Region.ready .any l.toArray listed = [k]) (hcl : Clo .any l.toArray listed)
    (h : ∀ K' : Act → World → Prop, Hid (∀ a w, S w → (Clo .any l.toArray (listed.setIfInBounds k true) → wpAnyHI F n P .any l.toArray Q S kk fuel (listed.setIfInBounds k true) a w) → K' a w) → if Region.wanted o (yielded l.toArray a.tmps) = true then Oper.wpIn F n P o a w K' Q else (∀ f, o.about P w a.eval = some f → F.fn f) ∧ K' (a.put o.dst undef) w) :
    wpAnyHI F n P .any l.toArray Q S kk (fuel + 1) listed a w := by
  have hr' : k ∈ Region.ready .any l.toArray listed := by rw [hr]; simp
  refine ⟨fun h0 => (by rw [hr] at h0; cases h0), fun i hi => ?_⟩
  rw [hr, List.mem_singleton] at hi
  subst hi
  exact wpOpIn_step (by simpa using ho) (fun K' hK => h K' (fun a w hS hW => hK a w ⟨fun _ => hS, hW (clo_set hcl hr')⟩))
/-- One of two comes next. -/
theorem regi_two {kk : Nat} {fuel : Nat} {listed : Array Bool} {o o' : Oper} (k k' : Nat) (hk : kk ≤ k) (hk' : kk ≤ k') (ho : l[k]? = some o) (ho' : l[k']? = some o') (hr : Region.ready .any l.toArray listed = [k, k'])
    (h : ∀ K' : Act → World → Prop, Hid (∀ a w, wpAnyHI F n P .any l.toArray Q S kk fuel (listed.setIfInBounds k true) a w → K' a w) → if Region.wanted o (yielded l.toArray a.tmps) = true then Oper.wpIn F n P o a w K' Q else (∀ f, o.about P w a.eval = some f → F.fn f) ∧ K' (a.put o.dst undef) w)
    (h' : ∀ K' : Act → World → Prop, Hid (∀ a w, wpAnyHI F n P .any l.toArray Q S kk fuel (listed.setIfInBounds k' true) a w → K' a w) → if Region.wanted o' (yielded l.toArray a.tmps) = true then Oper.wpIn F n P o' a w K' Q else (∀ f, o'.about P w a.eval = some f → F.fn f) ∧ K' (a.put o'.dst undef) w) :
    wpAnyHI F n P .any l.toArray Q S kk (fuel + 1) listed a w := by
  refine ⟨fun h0 => (by rw [hr] at h0; cases h0), fun i hi => ?_⟩
  rw [hr] at hi
  rcases List.mem_cons.1 hi with rfl | hi
  · exact wpOpIn_step (by simpa using ho) (fun K' hK => h K' (fun a w hW => hK a w ⟨fun h => by omega, hW⟩))
  · rw [List.mem_singleton] at hi
    subst hi
    exact wpOpIn_step (by simpa using ho') (fun K' hK => h' K' (fun a w hW => hK a w ⟨fun h => by omega, hW⟩))
/-- 'append' in such a region, with where the new slice lies. -/
theorem stepIn_append_at {ops : Array Oper} {o : Oper} {a : Act} {w : World} {K : Act → World → Prop} {E : Prop} (hgd : o.guard = none) (s x : Operand) (t : TypeId)
    (ho : o.op = .call { callee := .builtin .append, args := #[s, x], argTypes := #[t, t] })
    (base : Nat) (e : TypeId) (i : TypeInfo) (z : Value) (size bytes : Nat) (ht : P.underlying t = some (.slice e)) (hi : P.info? e = some i) (hz : i.zero = some z)
    (hsize : i.size = size) (hby : i.bytes = bytes) (hzs : z.cells.size = size) (hsz : 0 < size)
    (v : Value) (m : Nat) (xs : List Value) (hs : a.eval s = v) (hown : w.ownsRow base e size v m xs)
    (ad : Addr) (q c : Nat) (news : List Value) (hx : a.eval x = .slice (some ad) q c) (hl : news.length = q * size) (hnews : ∀ j u, news[j]? = some u → w.cell? (ad.add j) = some u) (h1 : ∀ u ∈ news, u.oneCell' = true)
    (h63 : m + q ≤ maxLen) (hbytes : (m + q) * bytes ≤ 140737488355328) (hbase : base ≤ w.heap.size)
    (h : ∀ v' w', w'.ownsRow base e size v' (m + q) (xs ++ news) → w.grownBy w' v.ownBlock → (v'.ownBlock = v.ownBlock ∨ v'.ownBlock = some w.heap.size) → K (a.put o.dst v') w') :
    if Region.wanted o (yielded ops a.tmps) = true then Oper.wpIn F n P o a w K Q else E := by
  have hw : Region.wanted o (yielded ops a.tmps) = true := by simp [Region.wanted, hgd]
  rw [if_pos hw]
  obtain ⟨v', w', hr, h2, h3, _, h5⟩ := run_append_own_at (P := P) w base t o.type e i z size bytes ht hi hz hsize hby hzs hsz v m xs hown ad q c news hl hnews h1 h63 hbytes hbase
  unfold Oper.wpIn
  refine ⟨?_, ?_⟩
  · simp [Oper.about, ho, resolve, Target.leads, Sem.run_pure]
  · rw [Oper.semAt_plain F _ _ (by rw [ho]; intro c hc'; cases hc')]
    simp [execOp, ho, resolve, invoke, builtin, hs, hx, hr, Result.andThen]
    exact h v' w' h2 h3 h5
theorem wpListIn_append_at {ops : Array Oper} {rest : List Oper} {o : Oper} {a : Act} {w : World} (hgd : o.guard = none) (s x : Operand) (t : TypeId)
    (ho : o.op = .call { callee := .builtin .append, args := #[s, x], argTypes := #[t, t] })
    (base : Nat) (e : TypeId) (i : TypeInfo) (z : Value) (size bytes : Nat) (ht : P.underlying t = some (.slice e)) (hi : P.info? e = some i) (hz : i.zero = some z)
    (hsize : i.size = size) (hby : i.bytes = bytes) (hzs : z.cells.size = size) (hsz : 0 < size)
    (v : Value) (m : Nat) (xs : List Value) (hs : a.eval s = v) (hown : w.ownsRow base e size v m xs)
    (ad : Addr) (q c : Nat) (news : List Value) (hx : a.eval x = .slice (some ad) q c) (hl : news.length = q * size) (hnews : ∀ j u, news[j]? = some u → w.cell? (ad.add j) = some u) (h1 : ∀ u ∈ news, u.oneCell' = true)
    (h63 : m + q ≤ maxLen) (hbytes : (m + q) * bytes ≤ 140737488355328) (hbase : base ≤ w.heap.size)
    (h : ∀ v' w', w'.ownsRow base e size v' (m + q) (xs ++ news) → w.grownBy w' v.ownBlock → (v'.ownBlock = v.ownBlock ∨ v'.ownBlock = some w.heap.size) → wpListIn F n P ops Q rest (a.put o.dst v') w') : wpListIn F n P ops Q (o :: rest) a w := by
  refine wpListIn_plain hgd fun K hK => ?_
  have := stepIn_append_at (F := F) (n := n) (Q := Q) (K := K) (E := False) (ops := ops) hgd s x t ho base e i z size bytes ht hi hz hsize hby hzs hsz v m xs hs hown ad q c news hx hl hnews h1 h63 hbytes hbase (fun v' w' q1 q2 q3 => hK _ _ (h v' w' q1 q2 q3))
  rwa [if_pos (by simp [Region.wanted, hgd])] at this
theorem regi_done {kk : Nat} {listed : Array Bool} (hr : Region.ready .any l.toArray listed = []) (h : Q .normal a w) : ∀ fuel, wpAnyHI F n P .any l.toArray Q S kk fuel listed a w
  | 0 => ⟨hr, h⟩
  | _ + 1 => ⟨fun _ => h, by rw [hr]; simp⟩
end
end Go.Proofs.Ytdlgpcjdaaeliaa
