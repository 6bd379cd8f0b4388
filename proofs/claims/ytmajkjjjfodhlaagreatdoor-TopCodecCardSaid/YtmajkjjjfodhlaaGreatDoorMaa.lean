/- Part Maa. No condition of its own. -/
import Derived.Lib.Hide
import Derived.Lib.SmallJoins
import Derived.Laws.AppendOwnNone
import Derived.Deep.AppendLies
import Derived.LoopIn
import Derived.OwnWalkIn
import Derived.Test.YtmajkjjjfodhlaaGreatDoorProg
import Derived.WalkLawsBesides
import Derived.WalkSpells
import Derived.RangeFuncNested
import Derived.RangeFuncBound
import Derived.Shelf.RegionOpen
import Derived.LoopNIn
namespace Go.Proofs.YtmajkjjjfodhlaaGreatDoor
open Go.RowKit Tryz Go.Shelf
set_option linter.all false
set_option maxRecDepth 100000
set_option maxHeartbeats 8000000
theorem A0:type_of%@Lib.hid:=@Lib.hid
theorem A1:type_of%@Nat.le_refl:=@Nat.le_refl
theorem A2:type_of%@Below.refl:=@Below.refl
theorem A3:type_of%@if_neg:=@if_neg
theorem A4:type_of%@if_pos:=@if_pos
theorem A6:type_of%@decide_eq_false:=@decide_eq_false
theorem A7:type_of%@Nat.zero_le:=@Nat.zero_le
theorem A8:type_of%@Nat.le_trans:=@Nat.le_trans
theorem A9:type_of%@List.length_append:=@List.length_append
theorem Bl:type_of%@List.getElem?_eq_getElem:=@List.getElem?_eq_getElem
theorem Bx:type_of%@World.size_alloc:=@World.size_alloc
theorem BV:type_of%@List.length_cons:=@List.length_cons
theorem BW:type_of%@info_parts:=@info_parts
theorem BZ:type_of%@Nat.lt_or_ge:=@Nat.lt_or_ge
theorem B2:type_of%@Nat.zero_add:=@Nat.zero_add
theorem B3:type_of%@Nat.lt_of_lt_of_le:=@Nat.lt_of_lt_of_le
theorem B4:type_of%@List.length_map:=@List.length_map
theorem B7:type_of%@List.nil_append:=@List.nil_append
theorem B8:type_of%@Array.getElem?_eq_none:=@Array.getElem?_eq_none
theorem C2:type_of%@World.ownsRow_nil:=@World.ownsRow_nil
theorem C4:type_of%@List.length_nil:=@List.length_nil
theorem Dn:type_of%@List.mem_cons:=@List.mem_cons
theorem D2:type_of%@List.size_toArray:=@List.size_toArray
theorem D3:type_of%@List.cons_append:=@List.cons_append
theorem E1:type_of%@List.mem_map:=@List.mem_map
theorem E9:type_of%@List.getElem?_eq_none:=@List.getElem?_eq_none
theorem FA:type_of%@List.length_eq_zero_iff:=@List.length_eq_zero_iff
theorem FR:type_of%@callsIn_wide:=@callsIn_wide
theorem F0:type_of%@wpList_append_own_at:=@wpList_append_own_at
theorem F1:type_of%@Array.replicate_succ:=@Array.replicate_succ
theorem F2:type_of%@Array.replicate_zero:=@Array.replicate_zero
theorem F3:type_of%@List.append_toArray:=@List.append_toArray
theorem GV:type_of%@List.push_toArray:=@List.push_toArray
theorem G3:type_of%@List.set_cons_succ:=@List.set_cons_succ
theorem G6:type_of%@OwnFrom.and:=@OwnFrom.and
theorem G7:type_of%@World.cell?_alloc_new:=@World.cell?_alloc_new
theorem G8:type_of%@List.flatMap_cons:=@List.flatMap_cons
theorem Hc:type_of%@decide_eq_true:=@decide_eq_true
theorem Hl:type_of%@Nat.add_assoc:=@Nat.add_assoc
theorem Hp:type_of%@List.getElem?_map:=@List.getElem?_map
theorem Hq:type_of%@Nat.le_of_lt:=@Nat.le_of_lt
theorem Hs:type_of%@Option.some.injEq:=@Option.some.injEq
theorem Ht:type_of%@callsIn_of_wp:=@callsIn_of_wp
theorem Hw:type_of%@Lib.cell_of_heap:=@Lib.cell_of_heap
theorem HD:type_of%@World.cell?_alloc_lt:=@World.cell?_alloc_lt
theorem HE:type_of%@heap_alloc_new:=@heap_alloc_new
theorem HG:type_of%@Below.heap_setCell:=@Below.heap_setCell
theorem HI:type_of%@List.getElem?_append_left:=@List.getElem?_append_left
theorem HM:type_of%@List.set_cons_zero:=@List.set_cons_zero
theorem HO:type_of%@Array.getElem?_eq_some_iff:=@Array.getElem?_eq_some_iff
theorem HP:type_of%@List.getElem?_take_of_lt:=@List.getElem?_take_of_lt
theorem HU:type_of%@List.getElem?_append_right:=@List.getElem?_append_right
theorem H1:type_of%@Boxed.cell:=@Boxed.cell
theorem IW:type_of%@ownFrom_below:=@ownFrom_below
theorem I0:type_of%@run_takeDeferred:=@run_takeDeferred
theorem J0:type_of%@Nat.mul_one:=@Nat.mul_one
theorem J1:type_of%@World.cell?_setCell_other:=@World.cell?_setCell_other
theorem L1:type_of%@List.mem_flatMap:=@List.mem_flatMap
theorem L2:type_of%@List.not_mem_nil:=@List.not_mem_nil
theorem Mx:type_of%@World.grownBy_alloc:=@World.grownBy_alloc
theorem M0:type_of%@callsIn_of_wp_marks:=@callsIn_of_wp_marks
theorem N2:type_of%@List.getElem?_eq_some_iff:=@List.getElem?_eq_some_iff
theorem OT:type_of%@List.setIfInBounds_toArray:=@List.setIfInBounds_toArray
theorem P8:type_of%@Nat.mod_lt:=@Nat.mod_lt
theorem Q3:type_of%@World.cell?_of_block:=@World.cell?_of_block
theorem S6:type_of%@Nat.mul_comm:=@Nat.mul_comm
theorem S7:type_of%@Nat.succ_mul:=@Nat.succ_mul
theorem V1:type_of%@Array.getElem?_eq_getElem:=@Array.getElem?_eq_getElem
theorem V2:type_of%@Array.getElem?_modify:=@Array.getElem?_modify
theorem Px{p q:Prop}(h:q)(t:q→p:=by(intro h;(try simp only[Act.put,OT,HM,G3]);exact h)):p:=t h
instance:Coe World Nat:=⟨fun w=>w.heap.size⟩
instance:Coe Int Value:=⟨.int .i64⟩
instance:Coe Nat Value:=⟨fun n=>.int .i64 n⟩
theorem Hx2{a b:Prop}(ha:a)(hb:b):Hid a∧Hid b:=⟨A0 ha,A0 hb⟩
theorem Hx3{a b c:Prop}(ha:a)(hb:b)(hc:c):Hid a∧Hid b∧Hid c:=⟨A0 ha,A0 hb,A0 hc⟩
theorem Hx4{a b c d:Prop}(ha:a)(hb:b)(hc:c)(hd:d):Hid a∧Hid b∧Hid c∧Hid d:=⟨A0 ha,A0 hb,A0 hc,A0 hd⟩
theorem Hx5{a b c d e:Prop}(ha:a)(hb:b)(hc:c)(hd:d)(he:e):Hid a∧Hid b∧Hid c∧Hid d∧Hid e:=⟨A0 ha,A0 hb,A0 hc,A0 hd,A0 he⟩
theorem Hx6{a b c d e f:Prop}(ha:a)(hb:b)(hc:c)(hd:d)(he:e)(hf:f):Hid a∧Hid b∧Hid c∧Hid d∧Hid e∧Hid f:=⟨A0 ha,A0 hb,A0 hc,A0 hd,A0 he,A0 hf⟩
theorem Hx7{a b c d e f g:Prop}(ha:a)(hb:b)(hc:c)(hd:d)(he:e)(hf:f)(hg:g):Hid a∧Hid b∧Hid c∧Hid d∧Hid e∧Hid f∧Hid g:=⟨A0 ha,A0 hb,A0 hc,A0 hd,A0 he,A0 hf,A0 hg⟩
theorem Hx8{a b c d e f g h:Prop}(ha:a)(hb:b)(hc:c)(hd:d)(he:e)(hf:f)(hg:g)(hh:h):Hid a∧Hid b∧Hid c∧Hid d∧Hid e∧Hid f∧Hid g∧Hid h:=⟨A0 ha,A0 hb,A0 hc,A0 hd,A0 he,A0 hf,A0 hg,A0 hh⟩
theorem Hx9{a b c d e f g h i:Prop}(ha:a)(hb:b)(hc:c)(hd:d)(he:e)(hf:f)(hg:g)(hh:h)(hi:i):Hid a∧Hid b∧Hid c∧Hid d∧Hid e∧Hid f∧Hid g∧Hid h∧Hid i:=⟨A0 ha,A0 hb,A0 hc,A0 hd,A0 he,A0 hf,A0 hg,A0 hh,A0 hi⟩
theorem Hx10{a b c d e f g h i j:Prop}(ha:a)(hb:b)(hc:c)(hd:d)(he:e)(hf:f)(hg:g)(hh:h)(hi:i)(hj:j):Hid a∧Hid b∧Hid c∧Hid d∧Hid e∧Hid f∧Hid g∧Hid h∧Hid i∧Hid j:=⟨A0 ha,A0 hb,A0 hc,A0 hd,A0 he,A0 hf,A0 hg,A0 hh,A0 hi,A0 hj⟩
theorem Hx11{a b c d e f g h i j k:Prop}(ha:a)(hb:b)(hc:c)(hd:d)(he:e)(hf:f)(hg:g)(hh:h)(hi:i)(hj:j)(hk:k):Hid a∧Hid b∧Hid c∧Hid d∧Hid e∧Hid f∧Hid g∧Hid h∧Hid i∧Hid j∧Hid k:=⟨A0 ha,A0 hb,A0 hc,A0 hd,A0 he,A0 hf,A0 hg,A0 hh,A0 hi,A0 hj,A0 hk⟩
theorem Hx12{a b c d e f g h i j k l:Prop}(ha:a)(hb:b)(hc:c)(hd:d)(he:e)(hf:f)(hg:g)(hh:h)(hi:i)(hj:j)(hk:k)(hl:l):Hid a∧Hid b∧Hid c∧Hid d∧Hid e∧Hid f∧Hid g∧Hid h∧Hid i∧Hid j∧Hid k∧Hid l:=⟨A0 ha,A0 hb,A0 hc,A0 hd,A0 he,A0 hf,A0 hg,A0 hh,A0 hi,A0 hj,A0 hk,A0 hl⟩
abbrev Ch(a w':World):Prop:=(∀b o,b<a.heap.size->w'.cell? ⟨b,o,none⟩=a.cell? ⟨b,o,none⟩)/\Below a a w'
theorem MQ{a w':World}(h:Below a a w'):Ch a w':=⟨λb o hb=>h.cell (p:=⟨b,o,none⟩) hb,h⟩
theorem YE(a:World):Ch a a:=MQ (A2 _ _)
theorem YF{b a:World}(h:Ch b a):Ch b a.drew:=MQ h.2.drew
theorem IQ{n:Nat}{c a b:World}(hb:Below n a b)(h:Ch c a)(d:a=n:=by rfl):Ch c b:=
 MQ (h.2.trans (hb.mono (by rw[<-d];exact h.2.size)))
theorem IS{a:World}:Ch a a.drew:=YF (YE a)
theorem Fw{w:World}{a:Addr}{u v:Value}(h:w.cell? a=some u):(w.setCell a v).cell? a=some v:=World.cell?_setCell_same w a v h
theorem DK{w:World}{b o o':Nat}{v:Value}{x:Option Value}(h:w.cell? ⟨b,o,none⟩=x)(a:o'≠o):(w.setCell ⟨b,o',none⟩ v).cell? ⟨b,o,none⟩=x:=by
 rw[J1 w _ _ _ (by intro h;cases h;exact a rfl)];exact h
theorem Sr{w:World}{b:Nat}{g h i j:Value}(c d e f:Value)(h0:w.cell? ⟨b,0,none⟩=some g)(h1:w.cell? ⟨b,1,none⟩=some h)(h2:w.cell? ⟨b,2,none⟩=some i)(h3:w.cell? ⟨b,3,none⟩=some j):
 ∃a,(((w.setCell ⟨b,0,none⟩ c).setCell ⟨b,1,none⟩ d).setCell ⟨b,2,none⟩ e).setCell ⟨b,3,none⟩ f=a/\a.cell? ⟨b,0,none⟩=some c/\a.cell? ⟨b,1,none⟩=some d/\a.cell? ⟨b,2,none⟩=some e/\a.cell? ⟨b,3,none⟩=some f/\
  Below b w a:=
 ⟨_,rfl,DK (DK (DK (Fw h0) (by decide)) (by decide)) (by decide),DK (DK (Fw (DK h1 (by decide))) (by decide)) (by decide),
   DK (Fw (DK (DK h2 (by decide)) (by decide))) (by decide),Fw (DK (DK (DK h3 (by decide)) (by decide)) (by decide)),
   ((((A2 b w).setCell (p:=⟨b,0,none⟩) (A1 b) c).setCell (p:=⟨b,1,none⟩) (A1 b) d).setCell (p:=⟨b,2,none⟩) (A1 b) e).setCell (p:=⟨b,3,none⟩) (A1 b) f⟩
section
open Go.ChangeShapes Go.WideShapes Go.ChangeAt Go.RowKit Go.Deep
def Av{c:Type}(w:World)(v:Value)(k:Nat)(E:c->List Value)(xs:List c):Prop:=
 ∃a cap,v= .slice a xs.length cap/\xs.length<=cap/\(a=none->cap=0)/\
  (xs=[]\/∃b off,a=some ⟨b,off,none⟩/\b<w.heap.size/\∀i (d:i<xs.length),∀j,j<k->w.cell? ⟨b,off+(i*k+j),none⟩=(E xs[i])[j]?)
theorem Bo(b o i:Nat):(⟨b,o,none⟩:Addr).add i=⟨b,o+i,none⟩:=by
 unfold Addr.add;by_cases a:i=0<;>simp_all
section
variable {H:Type} {enc:TypeId×Value→H} {P:Program} {W:World}
end
end
section
section
variable {α:Type} {w w':World} {v:Value} {k:Nat} {E:α→List Value} {xs:List α}
theorem Aj(h:Av w v k E xs)(hb:Below w w w'):Av w' v k E xs:=by
 obtain⟨a,cap,l,hl,g,hc⟩:=h;refine⟨a,cap,l,hl,g,?_⟩;rcases hc with hc|⟨b,off,ha,c,d⟩
 ·exact Or.inl hc
 ·refine Or.inr ⟨b,off,ha,B3 c hb.size,λi e j f=>?_⟩;rw[hb.cell (p:=⟨b,off+(i*k+j),none⟩) c];exact d i e j f
theorem Da{f:α->Value}(h:Av w v 1 (λx=>[f x]) xs):
 (xs=[]/\∃a cap,v= .slice a 0 cap/\(a=none->cap=0))\/
 (0<xs.length/\∃b off cap,v= .slice (some ⟨b,off,none⟩) xs.length cap/\xs.length<=cap/\b<w.heap.size/\∀i (c:i<xs.length),w.cell? ⟨b,off+i,none⟩=some (f xs[i])):=by
 obtain⟨a,cap,d,hl,j,hc⟩:=h;by_cases h0:xs=[]
 ·subst h0;exact Or.inl ⟨rfl,a,cap,d,j⟩
 ·rcases hc with hc|⟨b,off,ha,e,g⟩
  ·exact absurd hc h0
  ·subst ha;refine Or.inr ⟨List.length_pos_iff.2 h0,b,off,cap,d,hl,e,λi c=>?_⟩;simpa using g i c 0 (by omega)
theorem Lv{f:α->Value}{b off cap:Nat}(hl:xs.length<=cap)(hb:b<w.heap.size)(hc:∀i (a:i<xs.length),w.cell? ⟨b,off+i,none⟩=some (f xs[i])):
 Av w (.slice (some ⟨b,off,none⟩) xs.length cap) 1 (λx=>[f x]) xs:=
 ⟨_,cap,rfl,hl,nofun,Or.inr ⟨b,off,rfl,hb,λi a j c=>(by
   obtain rfl:j=0:=by omega
   simpa using hc i a)⟩⟩
theorem Cq{cap:Nat}{a:Option Addr}(b:a=none->cap=0):Av w (.slice a 0 cap) k E ([]:List α):=⟨a,cap,rfl,A7 _,b,Or.inl rfl⟩
theorem Cr{base e n:Nat}{f:α->Value}(h:w.ownsRow base e 1 v n (xs.map f)):Av w v 1 (λx=>[f x]) xs/\n=xs.length:=by
 obtain⟨hl,h⟩:=h;simp only[B4,J0] at hl;subst hl;refine⟨?_,rfl⟩;rcases h with⟨rfl,h0⟩|⟨g,cap,cur,rfl,d,hc,b,hm,hs,c⟩
 ·obtain rfl:=FA.1 h0;exact Cq λ_=>rfl
 ·refine Lv b (by
   rcases BZ g w.heap.size with h|h
   ·exact h
   ·rw[B8 h] at hc;cases hc) λi a=>?_
  have h1:(cur.toList.take (xs.length*1))[i]?=(xs.map f)[i]?:=by rw[c]
  rw[HP (by omega),Hp,Bl a] at h1;simp only[World.cell?,hc,B2];simpa using h1
theorem Ag{base e n size:Nat}{cs:List Value}(h:w.ownsRow base e size v n cs)(hb:Below w w w'):w'.ownsRow base e size v n cs:=by
 obtain⟨hl,h⟩:=h;refine⟨hl,?_⟩;rcases h with h|⟨g,cap,cur,rfl,a,hc,c,hm,hs,d⟩
 ·exact Or.inl h
 ·have b:g<w.heap.size:=by
   rcases BZ g w.heap.size with h|h
   ·exact h
   ·rw[B8 h] at hc;cases hc
  exact Or.inr ⟨g,cap,cur,rfl,a,by rw[hb.block g b];exact hc,c,hm,hs,d⟩
theorem CI{base base' e n size:Nat}{cs:List Value}(h:w.ownsRow base e size v n cs)(hb:base'<=base):w.ownsRow base' e size v n cs:=by
 obtain⟨hl,h⟩:=h;refine⟨hl,?_⟩;rcases h with h|⟨g,cap,cur,rfl,a,hc,b,hm,hs,c⟩
 ·exact Or.inl h
 ·exact Or.inr ⟨g,cap,cur,rfl,A8 hb a,hc,b,hm,hs,c⟩
theorem Ah{base e n size:Nat}{cs:List Value}(h:w.ownsRow base e size v n cs):∀b,v.ownBlock=some b->base<=b:=by
 obtain⟨_,h⟩:=h;intro b hb;rcases h with⟨rfl,_⟩|⟨g,cap,cur,rfl,a,_⟩
 ·cases hb
 ·simp only[Value.ownBlock,Hs] at hb;omega
theorem Aw{base e n size:Nat}{cs:List Value}(h:w.ownsRow base e size v n cs):∃a cap,v= .slice a n cap/\n<=cap/\(a=none->cap=0):=by
 obtain⟨_,h⟩:=h;rcases h with⟨rfl,rfl⟩|⟨g,cap,cur,rfl,c,_,b,_⟩
 ·exact⟨_,_,rfl,A1 _,λ_=>rfl⟩
 ·exact⟨_,_,rfl,b,nofun⟩
theorem Pj{f:α->Value}(w:World)(e:TypeId)(xs:List α)(cap:Nat)(hc:xs.length<=cap):Av (w.alloc (.cells (xs.map f).toArray e)) (.slice (some ⟨w,0,none⟩) xs.length cap) 1 (λx=>[f x]) xs:=
 Lv hc (by simp) λi a=>by
  rw[B2,G7];simp[a]
end
end
theorem AM{w:World}{v:Value}{base e n size:Nat}{cs:List Value}(h:w.ownsRow base e size v n cs):∀b,v.ownBlock=some b->b<w.heap.size:=by
 obtain⟨_,h⟩:=h;intro b hb;rcases h with⟨rfl,_⟩|⟨g,cap,cur,rfl,a,hc,_⟩
 ·cases hb
 ·simp only[Value.ownBlock,Hs] at hb;subst hb;rcases BZ g w.heap.size with h|h
  ·exact h
  ·rw[B8 h] at hc;cases hc
theorem Ss(w:World)(row:Option Nat):w.grownBy w row:=⟨rfl,rfl,rfl,A1 _,λ_ _ _=>rfl⟩
theorem MR{P:Program}{w:World}{ops:Array Oper}{rest:List Oper}{o:Oper}{a:Act}{Q:Exit->Act->World->Prop}{r:Type}{f:r->Value}{ys:List r}(l:o.guard=none)(s x:Operand)(t:TypeId)
 (p:o.op= .call {callee:= .builtin .append,args:=#[s,x],argTypes:=#[t,t]})
 (base:Nat)(e:TypeId)(i:TypeInfo)(z:Value)(bytes:Nat)(ht:P.underlying t=some (.slice e))(hi:P.info? e=some i)(hz:i.zero=some z)
 (hsize:i.size=1)(hby:i.bytes=bytes)(hzs:z.cells.size=1)
 (v:Value)(n:Nat)(xs:List Value)(hs:a.eval s=v)(hown:w.ownsRow base e 1 v n xs)
 (u:Value)(hx:a.eval x=u)(hsrc:Av w u 1 (λy=>[f y]) ys)(h1:∀y,(f y).oneCell'=true)
 (h63:n+ys.length<=maxLen)(hbytes:(n+ys.length)*bytes<=140737488355328)(hbase:base<=w.heap.size)
 (h:∀c w',w'.ownsRow base e 1 c (n+ys.length) (xs++ys.map f)->w.grownBy w' v.ownBlock->(c.ownBlock=v.ownBlock\/c.ownBlock=some w.heap.size)->wpList P ops Q rest (a.put o.dst c) w'):wpList P ops Q (o::rest) a w:=by
 rcases Da hsrc with⟨rfl,g,cap,rfl,C⟩|⟨hp,b,off,cap,rfl,D,hb,A⟩
 ·cases g with
  |none=>
   obtain rfl:=C rfl;exact wpList_append_own_none l s x t p base e i 1 ht hi v n xs hs hown hx (h v w (by simpa using hown) (Ss _ _) (Or.inl rfl))
  |some g=>
   exact F0 _ l s x t p base e i z 1 bytes ht hi hz hsize hby hzs (by decide) v n xs hs hown g 0 cap [] hx rfl (λj u d=>by simp at d) (λu q=>by simp at q) h63 hbytes hbase
    (λc w' g1 g2 _ k=>h c w' (by simpa using g1) g2 k)
 ·exact F0 _ l s x t p base e i z 1 bytes ht hi hz hsize hby hzs (by decide) v n xs hs hown ⟨b,off,none⟩ ys.length cap (ys.map f) hx (by simp)
   (λj u d=>by
    rw[Bo];rw[Hp] at d;cases m:ys[j]? with
    |none=>rw[m] at d;cases d
    |some y=>
     rw[m] at d;obtain⟨B,rfl⟩:=N2.1 m;rw[A j B];exact d)
   (λu q=>by obtain⟨y,_,rfl⟩:=E1.1 q;exact h1 y) h63 hbytes hbase
   (λc w' g1 g2 _ k=>h c w' g1 g2 k)
section
structure Em{α:Type}(E:α→List Value)(k:Nat):Prop where
 pos:0<k
 len:∀x,(E x).length=k
 one:∀x,∀u∈E x,u.oneCell'=true
section
variable {α:Type} {E:α→List Value} {k:Nat}
abbrev Af(E:α->List Value)(l:List α):List Value:=l.flatMap E
theorem Jz(x:α)(l:List α):Af E (x::l)=E x++Af E l:=G8
theorem Lw(h:Em E k)(l:List α):(Af E l).length=l.length*k:=by
 induction l with
 |nil=>simp
 |cons x l a=>rw[Jz,A9,a,h.len,BV,S7,Nat.add_comm]
theorem DB(h:Em E k)(l:List α):∀i (a:i<l.length) j,j<k->(Af E l)[i*k+j]?=(E l[i])[j]?:=by
 induction l with
 |nil=>intro i a;simp at a
 |cons x l c=>
  intro i a j b;rw[Jz];rcases i with _|i
  ·rw[Nat.zero_mul,B2,HI (by rw[h.len];exact b)];rfl
  ·rw[HU (by rw[h.len,S7];omega),h.len,show(i+1)*k+j-k=i*k+j by rw[S7];omega];exact c i (by simpa using a) j b
theorem JA(a b:List α):Af E (a++b)=Af E a++Af E b:=by simp
theorem YG(h:Em E k)(l:List α):∀u∈Af E l,u.oneCell'=true:=by
 intro u a;obtain⟨x,_,b⟩:=L1.1 a;exact h.one x u b
theorem CJ(a:Em E k){w:World}{base e n:Nat}{v:Value}{l:List α}(h:w.ownsRow base e k v n (Af E l)):Av w v k E l/\n=l.length:=by
 obtain⟨hl,h⟩:=h;rw[Lw a] at hl;obtain rfl:n=l.length:=(Nat.eq_of_mul_eq_mul_right a.pos hl).symm;refine⟨?_,rfl⟩;rcases h with⟨rfl,h0⟩|⟨g,cap,cur,rfl,o,hc,f,hm,hs,m⟩
 ·obtain rfl:=FA.1 h0;exact Cq λ_=>rfl
 ·refine⟨_,cap,rfl,f,nofun,Or.inr ⟨g,0,rfl,?_,λi b j c=>?_⟩⟩
  ·rcases BZ g w.heap.size with h|h
   ·exact h
   ·rw[B8 h] at hc;cases hc
  ·have d:i*k+j<l.length*k:=by
    have:(i+1)*k<=l.length*k:=Nat.mul_le_mul_right _ b;rw[S7] at this;omega
   have h1:(cur.toList.take (l.length*k))[i*k+j]?=(Af E l)[i*k+j]?:=by rw[m]
   rw[HP d,DB a l i b j c] at h1;simp only[World.cell?,hc,B2];simpa using h1
theorem YH(c:Em E k){w:World}{a:Option Addr}{n cap:Nat}{l:List α}(h:Av w (.slice a n cap) k E l):
 l=[]\/∃b off,a=some ⟨b,off,none⟩/\b<w.heap.size/\∀j u,(Af E l)[j]?=some u->w.cell? ⟨b,off+j,none⟩=some u:=by
 obtain⟨q,r,p,hl,s,hc⟩:=h;injection p with h1 h2 h3;subst h1;rcases hc with rfl|⟨b,off,rfl,hb,m⟩
 ·exact Or.inl rfl
 ·refine Or.inr ⟨b,off,rfl,hb,λj u d=>?_⟩;have o:j<l.length*k:=by
   rcases BZ j (Af E l).length with h|h
   ·rw[Lw c] at h;exact h
   ·rw[E9 h] at d;cases d
  have e:j/k<l.length:=Nat.div_lt_of_lt_mul (by rw[S6];exact o);have i:j%k<k:=P8 _ c.pos;have g:j/k*k+j%k=j:=by rw[S6];exact Nat.div_add_mod j k
  have f:=DB c l (j/k) e (j%k) i;rw[g,d] at f;have:=m (j/k) e (j%k) i;rw[g] at this;rw[this,<-f]
theorem MS(w:World)(cs:List Value)(t:TypeId):∀j u,cs[j]?=some u->(w.alloc (.cells cs.toArray t)).cell? ((⟨w,0,none⟩:Addr).add j)=some u:=by
 intro j u a;rw[Bo,B2,G7];simpa using a
variable {P:Program} {w:World} {ops:Array Oper} {rest:List Oper} {o:Oper} {a:Act} {Q:Exit→Act→World→Prop}
theorem IU(d:Em E k){ys:List α}(l:o.guard=none)(s x:Operand)(t:TypeId)
 (p:o.op= .call {callee:= .builtin .append,args:=#[s,x],argTypes:=#[t,t]})
 (base:Nat)(e:TypeId)(i:TypeInfo)(z:Value)(bytes:Nat)(ht:P.underlying t=some (.slice e))(hi:P.info? e=some i)(hz:i.zero=some z)
 (hsize:i.size=k)(hby:i.bytes=bytes)(hzs:z.cells.size=k)
 (v:Value)(n:Nat)(xs:List Value)(hs:a.eval s=v)(hown:w.ownsRow base e k v n xs)
 (u:Value)(hx:a.eval x=u)(hsrc:Av w u k E ys)
 (h63:n+ys.length<=maxLen)(hbytes:(n+ys.length)*bytes<=140737488355328)(hbase:base<=w.heap.size)
 (h:∀c w',w'.ownsRow base e k c (n+ys.length) (xs++Af E ys)->w.grownBy w' v.ownBlock->(c.ownBlock=v.ownBlock\/c.ownBlock=some w.heap.size)->wpList P ops Q rest (a.put o.dst c) w'):wpList P ops Q (o::rest) a w:=by
 obtain⟨f,cap,rfl,B,r,A⟩:=id hsrc;rcases YH d hsrc with rfl|⟨b,off,rfl,hb,q⟩
 ·cases f with
  |none=>
   obtain rfl:=r rfl;exact wpList_append_own_none l s x t p base e i k ht hi v n xs hs hown hx (h v w (by simpa using hown) (Ss _ _) (Or.inl rfl))
  |some f=>
   exact F0 _ l s x t p base e i z k bytes ht hi hz hsize hby hzs d.pos v n xs hs hown f 0 cap [] hx (by simp) (λj u m=>by simp at m) (λu y=>by simp at y) h63 hbytes hbase
    (λc w' g1 g2 _ g=>h c w' (by simpa using g1) g2 g)
 ·exact F0 _ l s x t p base e i z k bytes ht hi hz hsize hby hzs d.pos v n xs hs hown ⟨b,off,none⟩ ys.length cap (Af E ys) hx (by rw[Lw d])
   (λj u m=>by rw[Bo];exact q j u m) (YG d ys) h63 hbytes hbase
   (λc w' g1 g2 _ g=>h c w' g1 g2 g)
end
abbrev Cz:Int×Int->List Value:=λp=>[.int .i64 p.1, p.2]
theorem DL:Em Cz 2:=⟨by decide,λ_=>rfl,λx u a=>by
 simp only[Dn,L2,or_false] at a;rcases a with rfl|rfl<;>rfl⟩
abbrev Pk(w:World)(v:Value)(l:List (Int×Int)):Prop:=Av w v 2 Cz l
theorem Pm{w:World}{a:Option Addr}{n cap:Nat}{l:List (Int×Int)}(d:Pk w (.slice a n cap) l){k:Nat}(hk:k<l.length):
 ∃b off,a=some ⟨b,off,none⟩/\b<w.heap.size/\w.cell? ⟨b,off+k*2,none⟩=some (.int .i64 l[k].1)/\w.cell? ⟨b,off+k*2+1,none⟩=some (.int .i64 l[k].2):=by
 obtain⟨f,g,e,hl,h,hc⟩:=d;injection e with h1 h2 h3;subst h1;rcases hc with rfl|⟨b,off,rfl,hb,c⟩
 ·simp at hk
 ·exact⟨b,off,rfl,hb,by simpa using c k hk 0 (by omega),by simpa[Hl] using c k hk 1 (by omega)⟩
end
section
def Aa(w:World)(b:Nat)(vs:List Value)(T:TypeId):Prop:=w.heap[b]?=some (.cells vs.toArray T (0,0))
section
variable {w w':World} {b:Nat} {vs:List Value} {T:TypeId}
theorem Aa.lt(h:Aa w b vs T):b<w.heap.size:=by
 rcases BZ b w.heap.size with a|a
 ·exact a
 ·unfold Aa at h;rw[B8 a] at h;cases h
theorem Aa.cell(h:Aa w b vs T)(i:Nat){v:Value}(a:vs[i]?=some v):w.cell? ⟨b,i,none⟩=some v:=by
 rw[Hw h];simpa using a
theorem Aa.free(h:Aa w b vs T)(i:Nat):w.frozen? ⟨b,i,none⟩=false:=Lib.frozen_of_heap h i
theorem Aa.below(h:Aa w b vs T)(hb:Below w w w'):Aa w' b vs T:=(hb.block b h.lt).trans h
theorem Aa.below'(h:Aa w b vs T){B:Nat}(hb:Below B w w')(a:b<B):Aa w' b vs T:=(hb.block b a).trans h
theorem Aa.new(w:World)(vs:List Value)(T:TypeId):Aa (w.alloc (.cells vs.toArray T)) w.heap.size vs T:=HE w _
theorem Aa.set(h:Aa w b vs T)(i:Nat)(v:Value):Aa (w.setCell ⟨b,i,none⟩ v) b (vs.set i v) T:=by
 unfold Aa at*;obtain⟨a,hk⟩:=HO.1 h;show(w.heap.modify b _)[b]?=_;rw[V1 (by rw[Array.size_modify];exact a),Array.getElem_modify_self,hk];simp
theorem Aa.other(h:Aa w b vs T){c:Nat}(hc:c≠b)(i:Nat)(v:Value):Aa (w.setCell ⟨c,i,none⟩ v) b vs T:=by
 unfold Aa at*;rw[HG _ _ _ _ (λe=>hc e.symm)];exact h
theorem Aa.drew(h:Aa w b vs T):Aa w.drew b vs T:=h
theorem Aa.two{a c:Value}(h:Aa w b [a,c] T):w.cell? ⟨b,0,none⟩=some a/\w.cell? ⟨b,1,none⟩=some c/\w.frozen? ⟨b,0,none⟩=false/\w.frozen? ⟨b,1,none⟩=false:=
 ⟨h.cell 0 rfl,h.cell 1 rfl,h.free 0,h.free 1⟩
theorem Aa.three{a c d:Value}(h:Aa w b [a,c,d] T):w.cell? ⟨b,0,none⟩=some a/\w.cell? ⟨b,1,none⟩=some c/\w.cell? ⟨b,2,none⟩=some d/\w.frozen? ⟨b,0,none⟩=false/\w.frozen? ⟨b,1,none⟩=false/\w.frozen? ⟨b,2,none⟩=false:=
 ⟨h.cell 0 rfl,h.cell 1 rfl,h.cell 2 rfl,h.free 0,h.free 1,h.free 2⟩
theorem Aa.five{a c d e f:Value}(h:Aa w b [a,c,d,e,f] T):w.cell? ⟨b,0,none⟩=some a/\w.cell? ⟨b,1,none⟩=some c/\w.cell? ⟨b,2,none⟩=some d/\w.cell? ⟨b,3,none⟩=some e/\w.cell? ⟨b,4,none⟩=some f:=
 ⟨h.cell 0 rfl,h.cell 1 rfl,h.cell 2 rfl,h.cell 3 rfl,h.cell 4 rfl⟩
theorem Aa.five'{a c d e f:Value}(h:Aa w b [a,c,d,e,f] T):w.frozen? ⟨b,0,none⟩=false/\w.frozen? ⟨b,1,none⟩=false/\w.frozen? ⟨b,2,none⟩=false/\w.frozen? ⟨b,3,none⟩=false/\w.frozen? ⟨b,4,none⟩=false:=
 ⟨h.free 0,h.free 1,h.free 2,h.free 3,h.free 4⟩
theorem Aa.ten{a c d e f g i j k l:Value}(h:Aa w b [a,c,d,e,f,g,i,j,k,l] T):w.cell? ⟨b,0,none⟩=some a/\w.cell? ⟨b,1,none⟩=some c/\w.cell? ⟨b,2,none⟩=some d/\w.cell? ⟨b,3,none⟩=some e/\w.cell? ⟨b,4,none⟩=some f/\w.cell? ⟨b,5,none⟩=some g/\w.cell? ⟨b,6,none⟩=some i/\w.cell? ⟨b,7,none⟩=some j/\w.cell? ⟨b,8,none⟩=some k/\w.cell? ⟨b,9,none⟩=some l:=
 ⟨h.cell 0 rfl,h.cell 1 rfl,h.cell 2 rfl,h.cell 3 rfl,h.cell 4 rfl,h.cell 5 rfl,h.cell 6 rfl,h.cell 7 rfl,h.cell 8 rfl,h.cell 9 rfl⟩
end
theorem Aa.grown{w w':World}{b:Nat}{vs:List Value}{T:TypeId}{row:Option Nat}(h:Aa w b vs T)(a:w.grownBy w' row)(c:some b≠row):Aa w' b vs T:=
 (a.block b h.lt c).trans h
end
theorem YI(w:World)(a:Addr)(u:Value):w.grownBy (w.setCell a u) (some a.block):=
 ⟨rfl,rfl,rfl,by simp[World.setCell],λi _ hr=>by
  unfold World.setCell;simp only;rw[V2];split
  ·rename_i h;exact absurd (by rw[h]) hr
  ·rfl⟩
structure Ac(w w':World)(R:Nat→Prop):Prop where
 os:w'.os=w.os
 tape:w'.tape=w.tape
 output:w'.output=w.output
 size:w.heap.size≤w'.heap.size
 block:∀k,k<w.heap.size→¬R k→w'.heap[k]?=w.heap[k]?
theorem AW(w:World)(R:Nat->Prop):Ac w w R:=⟨rfl,rfl,rfl,A1 _,λ_ _ _=>rfl⟩
theorem Ac.trans{a b c:World}{R:Nat->Prop}(h:Ac a b R)(k:Ac b c R):Ac a c R:=
 ⟨k.os.trans h.os,k.tape.trans h.tape,k.output.trans h.output,A8 h.size k.size,λi d hr=>(k.block i (B3 d h.size) hr).trans (h.block i d hr)⟩
theorem Ac.mono{a b:World}{R R':Nat->Prop}(h:Ac a b R)(hr:∀k,k<a.heap.size->R k->R' k):Ac a b R':=
 ⟨h.os,h.tape,h.output,h.size,λi c e=>h.block i c λd=>e (hr i c d)⟩
theorem Ac.trans'{a b c:World}{R R':Nat->Prop}(h:Ac a b R)(k:Ac b c R')(hr:∀i,i<a.heap.size->R' i->R i):Ac a c R:=
 ⟨k.os.trans h.os,k.tape.trans h.tape,k.output.trans h.output,A8 h.size k.size,λi d e=>(k.block i (B3 d h.size) λf=>e (hr i d f)).trans (h.block i d e)⟩
theorem Gs{a b:World}{row:Option Nat}(h:a.grownBy b row):Ac a b (λk=>some k=row):=⟨h.os,h.tape,h.output,h.size,λi c d=>h.block i c d⟩
theorem AZ(a:World)(o:Obj)(R:Nat->Prop):Ac a (a.alloc o) R:=(Gs (Mx a o none)).mono (λk _ h=>by cases h)
theorem Lx(a:World)(R:Nat->Prop):Ac a a.drew R:=⟨rfl,rfl,rfl,A1 _,λ_ _ _=>rfl⟩
theorem Ad(a:World)(b o:Nat)(v:Value):Ac a (a.setCell ⟨b,o,none⟩ v) (λk=>k=b):=(Gs (YI a ⟨b,o,none⟩ v)).mono (λk _ h=>by cases h;rfl)
theorem Db(a:World)(b o:Nat)(v:Value){R:Nat->Prop}(h:R b):Ac a (a.setCell ⟨b,o,none⟩ v) R:=(Ad a b o v).mono λ_ _ e=>e▸h
theorem Ac.cell{a b:World}{R:Nat->Prop}(h:Ac a b R){k o:Nat}(hk:k<a.heap.size)(hr:¬R k):b.cell? ⟨k,o,none⟩=a.cell? ⟨k,o,none⟩:=Q3 (a:=⟨k,o,none⟩) (h.block k hk hr)
theorem Ac.frozen{a b:World}{R:Nat->Prop}(h:Ac a b R){k o:Nat}(hk:k<a.heap.size)(hr:¬R k):b.frozen? ⟨k,o,none⟩=a.frozen? ⟨k,o,none⟩:=World.frozen?_of_block (a:=⟨k,o,none⟩) (h.block k hk hr)
theorem Ac.below{a b:World}{R:Nat->Prop}{B:Nat}(h:Ac a b R)(d:B<=a.heap.size)(hr:∀k,R k->B<=k):Below B a b:=
 ⟨h.os,h.tape,h.output,h.size,λk hk=>h.block k (by omega) λc=>by have:=hr k c;omega⟩
theorem Ac.owns{a b:World}{R:Nat->Prop}{base e size n:Nat}{v:Value}{cs:List Value}(h:Ac a b R)(c:a.ownsRow base e size v n cs)(hr:∀g,v.ownBlock=some g->¬R g):b.ownsRow base e size v n cs:=by
 have f:=AM c;obtain⟨hl,c⟩:=c;refine⟨hl,?_⟩;rcases c with h0|⟨g,cap,cur,rfl,d,hc,i,hm,hs,j⟩
 ·exact Or.inl h0
 ·exact Or.inr ⟨g,cap,cur,rfl,d,(h.block g (f g rfl) (hr g rfl)).trans hc,i,hm,hs,j⟩
theorem Ai{w w':World}(h:Below w w w'):Ac w w' (λ_=>False):=⟨h.os,h.tape,h.output,h.size,λk hk _=>h.block k hk⟩
theorem GU{w w':World}(h:Below w w w')(R:Nat->Prop):Ac w w' R:=⟨h.os,h.tape,h.output,h.size,λk hk _=>h.block k hk⟩
theorem YJ{B:Nat}{a b:World}(h:Below B a b):Ac a b (λk=>B<=k):=⟨h.os,h.tape,h.output,h.size,λk _ c=>h.block k (by omega)⟩
theorem Gt{a c:World}{b:Nat}{vs:List Value}{T:TypeId}{R:Nat->Prop}(h:Aa a b vs T)(d:Ac a c R)(hb:¬R b):Aa c b vs T:=(d.block b h.lt hb).trans h
def JB(a:World):Nat->List (List Value×TypeId)->Prop
 |_,[]=>True
 |b,(c,T)::l=>Aa a b c T/\JB a (b+1) l
theorem JB.grs{a c:World}{R:Nat->Prop}(d:Ac a c R):∀{l:List (List Value×TypeId)} {b:Nat},JB a b l->(∀k,R k->k<b\/b+l.length<=k)->JB c b l
 |[],_,_,_=>trivial
 |_::l,b,h,hr=>⟨Gt h.1 d λe=>by have:=hr b e;rw[BV] at this;omega,JB.grs d h.2 λk hk=>by have:=hr k hk;rw[BV] at this;omega⟩
def DM:World->List (List Value×TypeId)->World
 |w,[]=>w
 |w,(c,T)::l=>DM (w.alloc (.cells c.toArray T)) l
structure St(w W:World)(l:List (List Value×TypeId)):Prop where
 bl:Below w.heap.size w W
 size:w.heap.size+l.length≤W.heap.size
 bs:JB W w.heap.size l
theorem Ly:∀(l:List (List Value×TypeId)) (w:World),Below w w (DM w l)/\(DM w l).heap.size=w.heap.size+l.length/\JB (DM w l) w.heap.size l
 |[],w=>⟨A2 _ _,rfl,trivial⟩
 |(c,T)::l,w=>by
  obtain⟨h1,h2,h3⟩:=Ly l (w.alloc (.cells c.toArray T));have hb:=(A2 w.heap.size w).alloc (A1 _) (.cells c.toArray T);rw[Bx] at h2 h3;exact⟨hb.trans (h1.mono hb.size),by rw[BV];show(DM (w.alloc _) l).heap.size=_;omega,(Aa.new w c T).below h1,h3⟩
theorem Po(w:World)(l:List (List Value×TypeId)):St w (DM w l) l:=⟨(Ly l w).1,Nat.le_of_eq (Ly l w).2.1.symm,(Ly l w).2.2⟩
theorem FZ(w:World)(l:List (List Value×TypeId)):∃a,DM w l=a/\Hid (a=w.heap.size+l.length)/\St w a l:=⟨_,rfl,(Ly l w).2.1,Po w l⟩
theorem St.grs{w b c:World}{R:Nat->Prop}{l:List (List Value×TypeId)}(h:St w b l)(a:Ac b c R)(hr:∀k,R k->w.heap.size+l.length<=k):St w c l:=
 ⟨h.bl.trans (a.below h.bl.size λk hk=>by have:=hr k hk;omega),A8 h.size a.size,h.bs.grs a λk hk=> .inr (hr k hk)⟩
theorem St.call{w a b:World}{l:List (List Value×TypeId)}(h:St w a l)(hb:Below a a b):St w b l:=h.grs (Ai hb) λ_ h=>h.elim
theorem St.lt{w a:World}{x:List Value×TypeId}{l:List (List Value×TypeId)}(h:St w a (x::l)):w<a.heap.size:=by have:=h.size;rw[BV] at this;omega
theorem KC(w:World)(o:Obj):Below w w (w.alloc o):=(A2 _ _).alloc (A1 _) o
theorem Fx(w:World)(c:List Value)(T:TypeId):∃a,w.alloc (.cells c.toArray T)=a/\Hid (a=w.heap.size+1)/\Below w w a/\Aa a w.heap.size c T:=⟨_,rfl,Bx _ _,KC _ _,Aa.new _ _ _⟩
abbrev Lz:Int->List Value:=λx=>[.int .i64 x]
theorem KD:Em Lz 1:=⟨by decide,λ_=>rfl,λx u a=>by
 simp only[Dn,L2,or_false] at a;subst a;rfl⟩
abbrev S3:=Option Addr×Nat×Nat
abbrev sv(s:S3):Value:= .slice s.1 s.2.1 s.2.2
abbrev NS:=S3×S3×S3
abbrev z3:S3:=(none,0,0)
abbrev Tr:=List (Int×Int)
inductive NodeP(w:World)(P:Nat→Prop):NS→Tr→Prop where
 |nil:NodeP w P (z3,z3,z3) []
 |one {a b c d:Nat} {k v:Int} (ha:a<w.heap.size) (hb:b<w.heap.size) (pa:P a) (pb:P b) (hc:1≤c) (hd:1≤d) (ea:w.cell? ⟨a,0,none⟩=some (.int .i64 k)) (eb:w.cell? ⟨b,0,none⟩=some (.int .i64 v)):
  NodeP w P ((some ⟨a,0,none⟩,1,c),(some ⟨b,0,none⟩,1,d),z3) [(k,v)]
theorem EU{w w':World}{P R:Nat->Prop}{n:NS}{t:Tr}(h:NodeP w P n t)(a:Ac w w' R)(hr:∀b,P b->¬R b):NodeP w' P n t:=by
 cases h with
 |nil=>exact .nil
 |one ha hb pa pb hc hd ea eb=>exact .one (B3 ha a.size) (B3 hb a.size) pa pb hc hd ((a.cell ha (hr _ pa)).trans ea) ((a.cell hb (hr _ pb)).trans eb)
theorem Dq{w:World}{P P':Nat->Prop}{n:NS}{t:Tr}(h:NodeP w P n t)(hp:∀b,b<w.heap.size->P b->P' b):NodeP w P' n t:=by
 cases h with
 |nil=>exact .nil
 |one ha hb pa pb hc hd ea eb=>exact .one ha hb (hp _ ha pa) (hp _ hb pb) hc hd ea eb
abbrev Bp(w:World)(n:NS)(t:Tr):Prop:=NodeP w (λ_=>True) n t
theorem Pp{w:World}{P:Nat->Prop}{n:NS}{t:Tr}(h:NodeP w P n t):Bp w n t:=Dq h λ_ _ _=>trivial
theorem JC{w w':World}{n:NS}{t:Tr}(h:Bp w n t)(hb:Below w w w'):Bp w' n t:=EU h (Ai hb) (λ_ _ h=>h)
theorem YK{w w':World}{n:NS}{t:Tr}{R:Nat->Prop}(h:Bp w n t)(a:Ac w w' R)(hr:∀b,b<w.heap.size->¬R b):Bp w' n t:=Pp (EU (Dq h (P':=λb=>b<w.heap.size) λ_ hb _=>hb) a hr)
def EI:List (Int×Int)->Int->Option Int
 |[],_=>none
 |x::l,k=>if x.1=k then some x.2 else EI l k
theorem En{P:Program}{c:Code}{Q:Exit->Act->World->Prop}{a:Act}{w:World}
 (h:∀K:Act->World->Prop,Hid (∀b w',c.wp P (Exit.then (λ_ _=>False) Q) b w'->K b w')->c.wp P (Exit.then K Q) a w):(Code.loop c).wp P Q a w:=by
 classical
 let K:Act->World->Prop:=λb w'=>c.wp P (Exit.then (λ_ _=>False) Q) b w';refine wp_loop (λb w'=>c.wp P (Exit.then K Q) b w'\/K b w') (λb w'=>if K b w' then 0 else 1) (.inl (h K λ_ _ h=>h)) λb w' f=>?_;by_cases d:K b w'
 ·exact Code.wp_mono (λe a w q=>by cases e<;>first|exact q|exact q.elim) d
 ·refine Code.wp_mono (λe a w q=>?_) (f.resolve_right d);cases e<;>first|exact q|skip
  rw[A3 d];exact⟨.inr q,by rw[A4 (show K a w from q)];decide⟩
theorem GW{F:Fence}{n:Nat}{P:Program}{c:Code}{Q:Exit->Act->World->Prop}{a:Act}{w:World}
 (h:∀K:Act->World->Prop,Hid (∀b w',c.wpIn F n P (Exit.then (λ_ _=>False) Q) b w'->K b w')->c.wpIn F n P (Exit.then K Q) a w):(Code.loop c).wpIn F n P Q a w:=by
 classical
 let K:Act->World->Prop:=λb w'=>c.wpIn F n P (Exit.then (λ_ _=>False) Q) b w';refine wpIn_loop (λb w'=>c.wpIn F n P (Exit.then K Q) b w'\/K b w') (λb w'=>if K b w' then 0 else 1) (.inl (h K λ_ _ h=>h)) λb w' f=>?_;by_cases d:K b w'
 ·exact Code.wpIn_mono (λe a w q=>by cases e<;>first|exact q|exact q.elim) d
 ·refine Code.wpIn_mono (λe a w q=>?_) (f.resolve_right d);cases e<;>first|exact q|skip
  rw[A3 d];exact⟨.inr q,by rw[A4 (show K a w from q)];decide⟩
theorem MT(w:World)(b c d:Value)(t:TypeId):∃a,w.alloc (.cells #[b,c,d] t)=a/\a.cell? ⟨w,0,none⟩=some b/\a.cell? ⟨w,1,none⟩=some c/\a.cell? ⟨w,2,none⟩=some d/\w.heap.size<a.heap.size/\Below w w a:=
 ⟨_,rfl,by simp,by simp,by simp,by simp,(A2 _ _).alloc (A1 _) _⟩
theorem YL{w0:World}{n:NS}{t:Tr}(h:Bp w0 n t)(b:Nat)(w:World)(i:Below w0 w0 w)(m:w0<=b)(hb:Aa w b [.int .i64 0, .bool false, .int .i64 0] 356):
 Calls prog 312 #[.pointer (some ⟨b,0,none⟩), .agg #[sv n.1,sv n.2.1,sv n.2.2], .int .i64 1] w λe w'=>e= .returned (.bool true)/\Ac w w' (λk=>k=b):=by
 obtain⟨j,r,o,p,q,s,a⟩:=MT w (sv n.1) (sv n.2.1) (sv n.2.2) 76;obtain⟨d,f⟩:=Hx2 (hb.below a) (Ai a);obtain⟨c0,c1,c2,f0,f1,f2⟩:=d.three;have hl:=hb.lt;have c:=Ad j b 0 (.int .i64 1);have h0:=d.set 0 (.int .i64 1);have l:=YK h ((YJ (i.trans (a.mono i.size))).trans (c.mono λ_ _ h=>by rw[h];exact m)) λb hb=>by omega
 cases l with
 |nil=>
  dsimp only[sv] at*;go_enter func312,ntmps312;go_wp2_with fail;refine En λK g=>?_;go_wp2_with fail;go_ret;exact⟨rfl,(f.mono λ_ _ h=>h.elim).trans c⟩
 |one ha hb pa pb hc hd ea eb=>
  dsimp only[sv] at*;go_enter func312,ntmps312;go_wp2_with fail;refine En λK g=>?_;go_wp2_with fail;refine g _ _ ?_;go_wp2_with fail;go_ret;exact⟨rfl,(((f.mono λ_ _ h=>h.elim).trans c).trans (Ad _ b 1 _)).trans (Ad _ b 2 _)⟩
theorem YM{w0:World}{n:NS}{t:Tr}(h:Bp w0 n t)(b:Nat)(w:World)(c:Below w0 w0 w)(i:w0<=b)(hb:Aa w b [.int .i64 0, .bool false, .int .i64 0] 356):
 Calls prog 276 #[.pointer (some ⟨b,0,none⟩), .agg #[sv n.1,sv n.2.1,sv n.2.2], .int .i64 1] w λe w'=>e= .returned (.bool true)/\Ac w w' (λk=>k=b):=by
 obtain⟨f,o,j,l,m,p,a⟩:=MT w (sv n.1) (sv n.2.1) (sv n.2.2) 76;have hc:=YL h b f (c.trans (a.mono c.size)) i (hb.below a);have d:=A0 (Ai a);clear hb c a;cases h<;>
 ·dsimp only[sv] at*;go_enter func276,ntmps276;go_wp2_with fail;refine hc.mono ?_;rintro e q ⟨rfl,g⟩;go_wp2_with fail;go_ret;exact⟨rfl,(d.mono λ_ _ h=>h.elim).trans g⟩
theorem MU{w0:World}{n:NS}{t:Tr}(h:Bp w0 n t)(w:World)(g:Below w0 w0 w):
 Calls prog 212 #[.agg #[sv n.1,sv n.2.1,sv n.2.2]] w λe w'=>e= .returned (.bool true)/\Below w w w':=by
 obtain⟨a,r,o,p,q,b,d⟩:=MT w (sv n.1) (sv n.2.1) (sv n.2.2) 76;have f:=(A2 a.heap.size a).alloc (A1 _) (.cells #[.int .i64 0, .bool false, .int .i64 0] 356);have c:=g.trans (d.mono g.size);have hc:=YM h a.heap.size _ (c.trans (f.mono c.size)) c.size (Aa.new a [.int .i64 0, .bool false, .int .i64 0] 356);have s:(a.alloc (.cells #[.int .i64 0, .bool false, .int .i64 0] 356)).cell? ⟨w,0,none⟩=some (sv n.1):=by rw[HD _ _ _ b];exact o
 have u:(a.alloc (.cells #[.int .i64 0, .bool false, .int .i64 0] 356)).cell? ⟨w,1,none⟩=some (sv n.2.1):=by rw[HD _ _ _ b];exact p
 have v:(a.alloc (.cells #[.int .i64 0, .bool false, .int .i64 0] 356)).cell? ⟨w,2,none⟩=some (sv n.2.2):=by rw[HD _ _ _ b];exact q
 obtain⟨l,j⟩:=Hx2 d f;clear h g c d f;go_enter func212,ntmps212;go_wp2_with fail;refine hc.mono ?_;rintro e x ⟨rfl,i⟩;have m:=A0 i;clear i hc;go_wp2_with fail;go_ret;exact⟨rfl,l.trans ((j.trans (m.below (by simp) λk hk=>by rw[hk];exact A1 _)).mono (Hq b))⟩
def Pq(B:Nat)(b c:World):Prop:=∀a:Unit->World->Prop,OwnFrom B a->a () b->a () c
theorem YN(B:Nat)(a:World):Pq B a a:=λ_ _ h=>h
theorem LB{e:Type}{F:Fence}{n:Nat}{P:Program}{g:Operand}{k:Array Tmp}{assign body:Code}{Q:Exit->Act->World->Prop}{a:Act}{w:World}
 (J:F.round=none)(h1:1<=n){gf:Nat}{lb:Array Value}(z:a.eval g= .func (.func gf) #[] lb)(hFg:F.fn gf)(eg:∀args w,(callFunc gf args).run P w= .ok (.enter gf args) w)
 {encs:e->Array Value}{Kp:World->World->Prop}{S Sp:List e->Prop}{N:Nat}{w0:World}(hseq:SeqStopsK F (n-1) P gf lb encs Kp S Sp N w0)
 (hKt:∀{A B C:World},Kp A B->Kp B C->Kp A C)(hKb:∀(b:World) (l:Nat) (o o':Obj),w<=l->b.heap[l]?=some o->o.isCells=false->o.isWalk=false->Kp b (b.putObj l o'))(hb0:Below w0 w0 w)(hps:∀x,(encs x).size=k.size)
 (I:List e->World->Prop)(Ix:Code->List e->World->Prop)(hI:OwnFrom w.heap.size I)(hIx:∀c,OwnFrom w.heap.size (Ix c))(h0:I [] w)
 (hround:∀(l:Nat) (pre:List e) (x:e) (b:World) (K:Act->World->Prop),I pre b->
  (∀j i,KeepsFrom w.heap.size b i->Kp b i->I pre i->
   (∀(f:Nat) (h:List e) (d:World),Pq w.heap.size i d->w<=f->(∃m,d.heap[f]?=some (.loop m))->I h d->h.length<N->
    body.wpIn (F.inRound f) (n-1-1) P (ownPostG w.heap.size Kp I Ix (h++[x]) d) j d)->K j i)->
  assign.wpIn (F.inRound l) (n-1-1) P (Exit.then K (λ_ _ _=>False)) {tmps:=(k.zip (encs x)).foldl (λt (p,v)=>t.setIfInBounds p v) a.tmps,defers:=[]} b)
 (hdone:∀(D:Nat) (xs:List e) (b:World),w<=D->S xs->I xs b->b.heap[D]?=some (.deferred (some []))->Q .normal {a with defers:={target:= .collected D,args:=#[]}::a.defers} b)
 (hstop:∀(D:Nat) (c:Code) (pre:List e) (b:World),w<=D->Sp pre->Ix c pre b->b.heap[D]?=some (.deferred (some []))->c.wpIn F n P Q {a with defers:={target:= .collected D,args:=#[]}::a.defers} b):
 (Code.rangeFunc g k assign body).wpIn F n P Q a w:=
 wpIn_rangeFunc_ownH J h1 z hFg eg hseq hKt hKb hb0 hps I Ix hI hIx h0
  (λx j b=>∀(f:Nat) (h:List e) (d:World),Pq w.heap.size b d->w<=f->(∃m,d.heap[f]?=some (.loop m))->I h d->h.length<N->
   body.wpIn (F.inRound f) (n-1-1) P (ownPostG w.heap.size Kp I Ix (h++[x]) d) j d)
  (λ_ _=>λ_ A r row hs E hr f h d H=>hs f h d (λs q h0=>H s q (q () A r row h0 E hr)))
  hround
  (λl pre _ _ b hl hr y u G=>u l pre b (YN _ _) hl hr y G) hdone hstop
section
attribute [local go_sem] Oper.semAt_some
abbrev Pr(x:Int×Int):Array Value:=#[.agg #[x.1, x.2]]
theorem Ps{m:Nat}(m':Nat){P:Program}{l:Nat}{args:Array Value}{a:World}{R:Ending->World->Prop}(h:YieldAt Fence.wide m P l args a R):YieldAt Fence.wide m' P l args a R:=by
 obtain⟨b,tmps,assign,body,h1,h2,h3⟩:=h;exact⟨b,tmps,assign,body,h1,h2,λc cs _=>h3 c cs (room_wide _)⟩
theorem YO{c:Type}{B:Nat}{b:c->World->Prop}(h:AbidesFrom B b){s:c}{a:World}(hs:b s a)(o:Obj):b s (a.alloc o):=
 h s a _ none hs (Mx a o none) (λ_ e=>by cases e)
theorem DY{g:Type}(b:Nat)(vs:List Value)(T:TypeId)(B:Nat):OwnFrom B (λ(_:g) c=>Aa c b vs T):=
 Own.from (λs X h row hs d f=>Aa.grown hs d (λe=>by
  obtain⟨o,a,hc⟩:=f b e.symm;unfold Aa at hs;rw[hs] at a;cases a;cases hc)) B
theorem JD{c:Type}(b:Nat)(t:TypeId)(v:Value)(B:Nat):OwnFrom B (λ(_:c) a=>Boxed a b t v):=DY b [v] t B
theorem YP{w0:World}{n:NS}{t:Tr}(h:Bp w0 n t)(l m m':Nat)(b:World->Prop)(j k:Int×Int->World->Prop)(d:∀a o,b a->b (a.alloc o))
 (v:∀x a,t=[x]->b a->YieldAt Fence.wide m prog l (Pr x) a λe c=>(e= .returned (.bool true)/\j x c)\/(e= .returned (.bool false)/\k x c))(hm:1<=m')(a:World)(f:Below w0 w0 a)(h0:b a):
 CallsIn Fence.wide m' prog 278 #[.agg #[sv n.1,sv n.2.1,sv n.2.2], .func (.yield l) #[] #[]] a λe c=>(e= .returned (.bool true)/\((t=[]/\b c)\/∃x,t=[x]/\j x c))\/(e= .returned (.bool false)/\∃x,t=[x]/\k x c):=by
 obtain⟨p,u,z,A,B,D,s⟩:=MT a (sv n.1) (sv n.2.1) (sv n.2.2) 76;have g:Hid (b p):=by rw[<-u];exact d _ _ h0
 have w:=JC h (f.trans (s.mono f.size));clear h h0 d f s;refine Ht func278 rfl trivial ?_ rfl;simp only[ntmps278,D2,BV,C4,Nat.reduceAdd,Nat.reduceSub,F1,F2,GV,F3,B7,D3];cases w with
 |nil=>
  dsimp only[sv] at*;gi_wp2;refine GW λK q=>?_;gi_wp2;go_ret;exact⟨rfl,g⟩
 |one ha hb pa pb hc hd ea eb=>
  dsimp only[sv] at*;gi_wp2;refine GW λK q=>?_;obtain⟨C,tmps,assign,body,hy,r⟩:=Ps (m'-1) (v _ p rfl g);dsimp only[Pr] at hy;gi_wp2;refine r.mono ?_;rintro e y (⟨rfl,d⟩|⟨rfl,d⟩)<;>have i:=A0 d<;>clear d r hy
  ·gi_wp2;refine q _ _ ?_;gi_wp2;go_ret;exact .inl ⟨rfl, .inr ⟨_,rfl,i⟩⟩
  ·gi_wp2;go_ret;exact .inr ⟨rfl,_,rfl,i⟩
abbrev Pt:World->World->Prop:=λ_ _=>True
abbrev Gu(t:Tr):={p:Int×Int//t=[p]}
theorem Su{t:Tr}{pre:List (Gu t)}(h:pre.length<t.length):pre=[]:=by
 cases pre with
 |nil=>rfl
 |cons x l=>have:=congrArg List.length x.2;simp at this h;omega
theorem Sv{w0:World}{n:NS}{t:Tr}(h:Bp w0 n t)(m:Nat)(hm:1<=m)(b:Nat)(w:World)(j:Below w0 w0 w)(hb:Aa w b [sv n.1,sv n.2.1,sv n.2.2] 76):
 SeqStopsK Fence.wide m prog 277 #[.pointer (some ⟨b,0,none⟩)] (λp:Gu t=>Pr p.1) Pt (λys=>ys.map (·.1)=t) (λpre=>pre.map (·.1)=t) t.length w:=λl g k a d c _ i h0=>by
 have hc:=FR (n:=m-1)|>.2 (callsIn_wide.1 (YP h l (m-1) 1 (g []) (λx a=>∃h,g [⟨x,h⟩] a) (λx a=>∃h,k [⟨x,h⟩] a) (λa o h=>YO c h o)
  (λx r e h1=>by
   obtain⟨s,tmps,assign,body,h2,h3⟩:=i [] ⟨x,e⟩ r h1 (by rw[e];exact Nat.zero_lt_one);exact⟨s,tmps,assign,body,h2,h3.mono λ_ _ q=>q.imp (λq=>⟨q.1,e,q.2.1⟩) λq=>⟨q.1,e,q.2⟩⟩) (A1 _) a (j.trans (d.mono j.size)) h0))
 obtain⟨v,y,z,_⟩:=(hb.below d).three;clear i h0 c d hb;refine Ht func277 rfl trivial ?_ rfl;simp only[ntmps277,D2,BV,C4,Nat.reduceAdd,Nat.reduceSub,F1,F2,GV,F3,B7,D3];dsimp only[sv] at*;gi_wp2;refine⟨trivial,hc.mono ?_⟩;rintro e u (⟨rfl,c⟩|⟨rfl,c⟩)<;>have f:=A0 c<;>clear c hc
 ·gi_wp2
  go_end0
  exact⟨⟨_,rfl⟩, .inl (f.elim (λq=>⟨[],q.1.symm,q.2⟩) λ⟨x,e,_,q⟩=>⟨[⟨x,_⟩],e.symm,q⟩)⟩
 ·gi_wp2
  go_end0
  obtain⟨x,e,_,q⟩:=f.out;exact⟨⟨_,rfl⟩, .inr ⟨[⟨x,_⟩],e.symm,q⟩⟩
theorem Sw(m:Nat)(a b c:Value)(w:World):
 CallsIn Fence.wide m prog 213 #[.agg #[a,b,c]] w λe w'=>e= .returned (.func (.func 277) #[] #[.pointer (some ⟨w,0,none⟩)])/\w'=w.alloc (.cells #[a,b,c] 76):=by
 refine Ht func213 rfl trivial ?_ rfl;simp only[ntmps213,D2,BV,C4,Nat.reduceAdd,Nat.reduceSub,F1,F2,GV,F3,B7,D3];gi_wp2;go_ret;exact⟨rfl,rfl⟩
theorem KeepsOthers.below{a c:World}(h:Below a a c):KeepsOthers a c:=
 ⟨h.size,λk o hk _=>(h.block k (by
   rcases BZ k a.heap.size with b|b
   ·exact b
   ·rw[B8 b] at hk;cases hk)).trans hk⟩
theorem Ac.others{a b:World}{R:Nat->Prop}(h:Ac a b R)(hr:∀k o,R k->a.heap[k]?=some o->o.isCells=true):KeepsOthers a b:=
 ⟨h.size,λk o hk d=>(h.block k (by
   rcases BZ k a.heap.size with c|c
   ·exact c
   ·rw[B8 c] at hk;cases hk) λe=>by rw[hr k o e hk] at d;cases d).trans hk⟩
theorem Pu:(prog.info? 113).map (λi=>(i.zero,i.size,i.bytes))=some (some (.agg #[.int .i64 0, .int .i64 0]),2,16):=by kernel_rfl
abbrev Pv(w:World)(base:Nat)(v:Value)(l:List (Int×Int)):Prop:=w.ownsRow base 113 2 v l.length (Af Cz l)
abbrev Sx(n₀ b:Nat)(l:List (Int×Int))(a:World):Prop:=∃v,Boxed a b 108 v/\Pv a n₀ v l/\True
theorem YQ{w0:World}{n:NS}{t:Tr}(h:Bp w0 n t)(x y:Int)(hk:∀p∈t,x<=p.1/\p.1<y)(w:World)(C:Below w0 w0 w):
 CallsIn Fence.wide 6 prog 123 #[.agg #[sv n.1,sv n.2.1,sv n.2.2], x, y] w λe w'=>∃(a:Option Addr) (cap:Nat),e= .returned (.slice a t.length cap)/\Pv w' w.heap.size (.slice a t.length cap) t/\Below w w w':=by
 obtain⟨i0,al,au,av,ax⟩:=BW Pu;refine M0 func123 rfl trivial ?_ rfl;simp only[ntmps123,D2,BV,C4,Nat.reduceAdd,Nat.reduceSub,F1,F2,GV,F3,B7,D3];obtain⟨ab,aj,aT,S⟩:=FZ w [([sv n.1,sv n.2.1,sv n.2.2],76),([x],3),([y],3)];dsimp only[DM] at aj;have W:=FR (n:=6-1)|>.2 (MU h ab (C.trans (S.bl.mono C.size)));obtain⟨Y,Z,a0,_⟩:=S.bs.1.three;gi_wp2;refine⟨trivial,W.mono ?_⟩;rintro e k ⟨rfl,U⟩;have E:=S.call U;obtain⟨F,aM,aU,V,a1⟩:=Fx k [.slice none 0 0] 108;have P:=E.call V;obtain⟨Y,Z,a0,_⟩:=P.bs.1.three;clear W U V;gi_wp2;refine⟨trivial,(Sw (6-1) (sv n.1) (sv n.2.1) (sv n.2.2) F).mono ?_⟩;rintro e Q ⟨rfl,R⟩;obtain⟨ay,T,aV,G,a2⟩:=Fx F [sv n.1,sv n.2.1,sv n.2.2] 76;obtain rfl:=R.trans T;have s:=P.call G;have a3:=a1.below G;clear R T Y Z a0 G;have aq:=Sv h (6-1) (by omega) _ Q (C.trans (s.bl.mono C.size)) a2;have X:=s.bl.size;have ap:=E.bl.size;have aP:w.heap.size+3<=k.heap.size:=E.size;gi_wp2;refine LB rfl (by omega) (gf:=277) (lb:=#[.pointer (some ⟨F,0,none⟩)]) rfl trivial (enters_of func277 (by kernel_rfl) rfl)
  aq (λ_ _=>trivial) (λ_ _ _ _ _ _ _ _=>trivial) (A2 _ _) (λ_=>rfl)
  (λpre b=>(Sx w.heap.size k.heap.size (pre.map (·.1)) b/\Boxed b (w+1) 3 (.int .i64 x)/\Boxed b (w+1+1) 3 (.int .i64 y))/\Below w w b)
  (λ_ _ _=>False)
  (G6 (G6 (Own.from (holdsRow_own w.heap.size k.heap.size 108 113 2 (λpre:List (Gu t)=>(pre.map (·.1)).length) (λpre=>Af Cz (pre.map (·.1))) (λ_ _=>True)) _) (G6 (JD _ _ _ _) (JD _ _ _ _))) (IW (A1 _) X))
  (λ_ _ _ _ _ hs _ _=>hs)
  ⟨⟨⟨_,a3,C2 _ _ _ _,trivial⟩,s.bs.2.1,s.bs.2.2.1⟩,s.bl⟩
  ?round ?done ?stop
 case stop=>exact λD c pre b _ _ h _=>h.elim
 case round=>
  rintro l pre ⟨⟨pk,I⟩,ar⟩ b K ag o;obtain⟨h1,h2⟩:=hk (pk,I) (by rw[ar];simp);have b1:decide (y<=pk)=false:=A6 (by omega);have b2:decide (x<=pk)=true:=Hc h1;obtain⟨z,ak,_,j,ad⟩:=Fx b [pk, I] 113;obtain⟨⟨⟨v,q,d,_⟩,g,i⟩,f⟩:=ag;have ah:=And.intro (And.intro (And.intro q d) (And.intro g i)) f;have J:Hid ((Sx w.heap.size k.heap.size (pre.map (·.1)) z/\Boxed z (w+1) 3 (.int .i64 x)/\Boxed z (w+1+1) 3 (.int .i64 y))/\Below w w z):=
   ⟨⟨⟨v,Aa.below q j,Ag d j,trivial⟩,Aa.below g j,Aa.below i j⟩,f.trans (j.mono f.size)⟩
  obtain⟨L,O⟩:=Hx2 o j;clear o ah q d g i f j;gi_wp2;refine L _ _ ((KeepsOthers.below O).from _) trivial J ?_;clear L J O ak;rintro aX b4 ac ao _ _ ⟨⟨⟨u,B,d,_⟩,g,i⟩,f⟩ an;obtain rfl:=Su an;obtain⟨b0,b3,_⟩:=(ao (λ_ b=>Aa b _ _ _) (DY _ _ _ _) ad).two;have c1:=H1 g;have c2:=H1 i;have c3:=H1 B;have c4:=Boxed.frozen B;obtain⟨a8,M,N,m,r⟩:=Hx5 B g i d f;clear B g i d f
  gi_wp2_with (gi_at_builtin;refine wpListIn_append_own _ rfl _ _ 108 rfl w.heap.size 113 i0 _ 2 16 underlying108 al au av ax rfl (by decide) _ _ _ rfl (m.alloc _) ⟨ac,0,none⟩ 1 1 (Cz (pk,I)) rfl rfl (MS _ _ _) (DL.one _) (by simp[maxLen]) (by simp) (by have:=r.size;simp;omega) ?_
               intro b5 b6 H A _;obtain⟨aC,aF,rfl,_⟩:=Aw H;obtain⟨h1,h2,h3,h4,h5⟩:=a8.appended (by decide) m r.size ap H A;have c5:=h1.cell;have aK:=h1.frozen;obtain⟨a4,a5,a6,a7,a9,aa⟩:=Hx6 h2 h3 h4 h5 (λu:Value=>((M.alloc _).kept A (M.not_row (by decide) m)).other (show w.heap.size+1≠k.heap.size by omega) u) (λu:Value=>((N.alloc _).kept A (N.not_row (by decide) m)).other (show w.heap.size+1+1≠k.heap.size by omega) u);clear h1 h2 h3 h4 h5 H A)
  exact⟨a6.from _,trivial,⟨⟨_,a4,a5,trivial⟩,a9 _,aa _⟩,r.trans a7⟩
 case done=>
  rintro D ys b af ai ⟨⟨⟨v,q,d,_⟩,g,i⟩,f⟩ o;rw[ai] at d;obtain⟨a,cap,rfl,_⟩:=Aw d;have m:=A0 (ownsRow_putObj d (.deferred none) o rfl);have aL:=q.cell;have r:=A0 (f.trans (belowK_b (w:=Q) X b D (.deferred (some [])) (.deferred none) af o rfl rfl));clear q d g i f;gi_wp2;refine⟨by simp, .inl ⟨_,_,rfl,I0 o,?_⟩⟩;exact⟨_,results_tmp rfl _ _ _,a,cap,rfl,m,r⟩
theorem KE{w0:World}{n:NS}{t:Tr}(h:Bp w0 n t)(x y:Int)(hk:∀p∈t,x<=p.1/\p.1<y)(w:World)(b:Below w0 w0 w):
 Calls prog 123 #[.agg #[sv n.1,sv n.2.1,sv n.2.2], x, y] w λe w'=>∃(a:Option Addr) (cap:Nat),e= .returned (.slice a t.length cap)/\Pv w' w.heap.size (.slice a t.length cap) t/\Below w w w':=
 (FR (n:=6)).1 (YQ h x y hk w b)
end
end Go.Proofs.YtmajkjjjfodhlaaGreatDoor
