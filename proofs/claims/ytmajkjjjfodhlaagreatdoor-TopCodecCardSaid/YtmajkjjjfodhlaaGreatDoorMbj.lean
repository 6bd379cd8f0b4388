/- Part Mbj. No condition of its own. -/
import Derived.Laws.EntriesVeiled
import Derived.Test.YtmajkjjjfodhlaaGreatDoorMbi
namespace Go.Proofs.YtmajkjjjfodhlaaGreatDoor
open Go.RowKit Tryz Go.Shelf
set_option linter.all false
set_option maxRecDepth 100000
set_option maxHeartbeats 8000000
abbrev Ae(b:Nat):Value:= .func (.func 376) #[] #[.pointer (some ⟨b,0,none⟩)]
abbrev GT:Value:= .func (.func 341) #[] #[]
theorem nK(F:Nat)(w:World):Calls prog 336 #[.func (.func F) #[] #[]] w λe w'=>e= .returned (.agg #[Ae w.heap.size])/\w'=(w.alloc (.cells #[.func (.func F) #[] #[]] 416)).alloc (.cells #[Ae w.heap.size] 375):=by
 have b:∀(a:Fn) (first cap:Array Value) (w:World),(Instr.makeFunc a first cap).run prog w= .ok (.func a first cap) w:=λ_ _ _ _=>rfl;go_enter func336,ntmps336;go_wp2_with fail;refine A5 (v:= .agg #[Ae w.heap.size]) (by simp[results,results336,go_sem]) rfl ?_;exact⟨rfl,rfl⟩
def Jt:World->List Obj->World
 |w,[]=>w
 |w,o::os=>Jt (w.alloc o) os
theorem Sc:∀(os:List Obj) (w:World),Below w w (Jt w os)
 |[],w=>A2 _ _
 |o::os,w=>((A2 w.heap.size w).alloc (A1 _) o).trans ((Sc os (w.alloc o)).mono (by simp))
theorem Ym:∀(os:List Obj) (w:World),(Jt w os).heap.size=w.heap.size+os.length
 |[],w=>rfl
 |o::os,w=>by show(Jt (w.alloc o) os).heap.size=_;rw[Ym os,Bx,BV];omega
theorem Yn:∀(os:List Obj) (w:World) (i:Nat),i<os.length->(Jt w os).heap[w.heap.size+i]?=os[i]?
 |[],w,i,h=>by simp at h
 |o::os,w,0,_=>by
  show(Jt (w.alloc o) os).heap[w.heap.size]?=some o;rw[(Sc os (w.alloc o)).block w.heap.size (by simp)];exact World.alloc_heap_new w o
 |o::os,w,i+1,h=>by
  have:=Yn os (w.alloc o) i (by simpa using h);rw[Bx] at this;show(Jt (w.alloc o) os).heap[w.heap.size+(i+1)]?=os[i]?;rw[<-this];congr 1;omega
def C8(c:World)(v:Value)(a:List Value):Prop:=∃b,v= .slice (some ⟨b,0,none⟩) a.length a.length/\Aa c b a 375
theorem Ju{c d:World}{b n a:Nat}{f:List Value}(h:C8 c (.slice (some ⟨b,0,none⟩) n n) f)(hb:b≠a)(g:Ac c d (λk=>k=a)):C8 d (.slice (some ⟨b,0,none⟩) n n) f:=by
 obtain⟨i,e,hk⟩:=h;injection e with e1 e2 e3;injection e1 with e1;injection e1 with e1;subst e1;exact⟨b,by rw[e2],g.blk hk hb⟩
structure FX(n:Nat)(w W:World)(L:List EH):Prop where
 map:Dp W (n+1+1+1+1+1+1+1+1+1+1+1+1+1) L
 c1:W.cell? ⟨n+1+1,0,none⟩=some (Ae n)
 c2:W.cell? ⟨n+1+1+1+1+1,0,none⟩=some (Ae (n+1+1+1))
 c3:W.cell? ⟨n+1+1+1+1+1+1+1+1,0,none⟩=some (Ae (n+1+1+1+1+1+1))
 c4:W.cell? ⟨n+1+1+1+1+1+1+1+1+1+1+1,0,none⟩=some (Ae (n+1+1+1+1+1+1+1+1+1))
 c5:W.cell? ⟨n+1+1+1+1+1+1+1+1+1+1+1+1,0,none⟩=some GT
 f1:W.cell? ⟨n,0,none⟩=some (.func (.func 337) #[] #[])
 f2:W.cell? ⟨n+1+1+1,0,none⟩=some (.func (.func 338) #[] #[])
 f3:W.cell? ⟨n+1+1+1+1+1+1,0,none⟩=some (.func (.func 339) #[] #[])
 f4:W.cell? ⟨n+1+1+1+1+1+1+1+1+1,0,none⟩=some (.func (.func 340) #[] #[])
 size:n+14≤W.heap.size
 low:Below n w W
theorem FX.step{n:Nat}{w c a:World}{L f:List EH}(h:FX n w c L)(d:Ac c a (λb=>b=n+1+1+1+1+1+1+1+1+1+1+1+1+1))(hm:Dp a (n+1+1+1+1+1+1+1+1+1+1+1+1+1) f):FX n w a f:=by
 have hs:=h.size;have k:∀b,b<n+13->a.cell? ⟨b,0,none⟩=c.cell? ⟨b,0,none⟩:=λb hb=>d.cell (by omega) (by omega);exact⟨hm,(k _ (by omega)).trans h.c1,(k _ (by omega)).trans h.c2,(k _ (by omega)).trans h.c3,(k _ (by omega)).trans h.c4,(k _ (by omega)).trans h.c5,(k _ (by omega)).trans h.f1,(k _ (by omega)).trans h.f2,(k _ (by omega)).trans h.f3,(k _ (by omega)).trans h.f4,A8 hs d.size,h.low.trans (d.below (B:=n) (by omega) (λk e=>by omega))⟩
theorem FX.alloc{n:Nat}{w a:World}{L:List EH}(h:FX n w a L)(o:Obj):FX n w (a.alloc o) L:=h.step (AZ a o _) (h.map.below ((A2 _ _).alloc (A1 _) _))
theorem nL(w:World):Calls prog 288 #[] w λe w'=>e= .returned (.map (some (w+1+1+1+1+1+1+1+1+1+1+1+1+1)))/\∃U V W X Y Z a0 a1:Value,FX w.heap.size w w' [(⟨#[99,114,101,97,116,101]⟩, .agg #[.int .i64 0,U]),(⟨#[100,101,108,101,116,101]⟩, .agg #[.int .i64 1,V]),(⟨#[114,101,115,105,122,101]⟩, .agg #[.int .i64 2,W]),(⟨#[114,101,97,100]⟩, .agg #[.int .i64 3,X]),(⟨#[119,114,105,116,101]⟩, .agg #[.int .i64 4,Y]),(⟨#[100,105,115,99,97,114,100]⟩, .agg #[.int .i64 5,Z]),(⟨#[115,110,97,112]⟩, .agg #[.int .i64 6,a0]),(⟨#[102,108,117,115,104]⟩, .agg #[.int .i64 7, .slice none 0 0]),(⟨#[115,116,97,116,117,115]⟩, .agg #[.int .i64 8, .slice none 0 0]),(⟨#[99,111,109,112,97,99,116]⟩, .agg #[.int .i64 9,a1])]/\C8 w' U [Ae (w.heap.size),Ae (w+1+1+1+1+1+1+1+1+1)]/\C8 w' V [Ae (w.heap.size)]/\C8 w' W [Ae (w.heap.size),Ae (w+1+1+1+1+1+1+1+1+1)]/\C8 w' X [Ae (w.heap.size),Ae (w+1+1+1+1+1+1)]/\C8 w' Y [Ae (w.heap.size),Ae (w+1+1+1+1+1+1),GT]/\C8 w' Z [Ae (w.heap.size),Ae (w+1+1+1+1+1+1),Ae (w+1+1+1+1+1+1+1+1+1)]/\C8 w' a0 [Ae (w.heap.size),Ae (w+1+1+1)]/\C8 w' a1 [Ae (w+1+1+1+1+1+1+1+1+1)]:=by
 have a8:= @run_makeMap prog;have a4:True:=trivial;go_enter func288,ntmps288;go_wp2_with (first
  |(go_at_call 336;refine(nK _ _).mono ?_;rintro e w' ⟨rfl,rfl⟩)
  |(change wpList _ _ _ ({dst:=some 12,op:=_,type:=_,pos:=_,after:=_,guard:=_}::_) _ _
    clear a4;obtain⟨d,I⟩:∃d,((((((((((((((w.alloc (.cells #[.func (.func 337) #[] #[]] 416)).alloc (.cells #[Ae (w.heap.size)] 375)).alloc (.cells #[Ae (w.heap.size)] 375)).alloc (.cells #[.func (.func 338) #[] #[]] 416)).alloc (.cells #[Ae (w+1+1+1)] 375)).alloc (.cells #[Ae (w+1+1+1)] 375)).alloc (.cells #[.func (.func 339) #[] #[]] 416)).alloc (.cells #[Ae (w+1+1+1+1+1+1)] 375)).alloc (.cells #[Ae (w+1+1+1+1+1+1)] 375)).alloc (.cells #[.func (.func 340) #[] #[]] 416)).alloc (.cells #[Ae (w+1+1+1+1+1+1+1+1+1)] 375)).alloc (.cells #[Ae (w+1+1+1+1+1+1+1+1+1)] 375)).alloc (.cells #[GT] 375)).alloc (.map #[] 0))=d:=⟨_,rfl⟩;have G:Jt w [.cells #[.func (.func 337) #[] #[]] 416, .cells #[Ae (w.heap.size)] 375, .cells #[Ae (w.heap.size)] 375, .cells #[.func (.func 338) #[] #[]] 416, .cells #[Ae (w+1+1+1)] 375, .cells #[Ae (w+1+1+1)] 375, .cells #[.func (.func 339) #[] #[]] 416, .cells #[Ae (w+1+1+1+1+1+1)] 375, .cells #[Ae (w+1+1+1+1+1+1)] 375, .cells #[.func (.func 340) #[] #[]] 416, .cells #[Ae (w+1+1+1+1+1+1+1+1+1)] 375, .cells #[Ae (w+1+1+1+1+1+1+1+1+1)] 375, .cells #[GT] 375, .map #[] 0]=d:=I;have key:∀i (T:i<14),d.heap[w.heap.size+i]?=([.cells #[.func (.func 337) #[] #[]] 416, .cells #[Ae (w.heap.size)] 375, .cells #[Ae (w.heap.size)] 375, .cells #[.func (.func 338) #[] #[]] 416, .cells #[Ae (w+1+1+1)] 375, .cells #[Ae (w+1+1+1)] 375, .cells #[.func (.func 339) #[] #[]] 416, .cells #[Ae (w+1+1+1+1+1+1)] 375, .cells #[Ae (w+1+1+1+1+1+1)] 375, .cells #[.func (.func 340) #[] #[]] 416, .cells #[Ae (w+1+1+1+1+1+1+1+1+1)] 375, .cells #[Ae (w+1+1+1+1+1+1+1+1+1)] 375, .cells #[GT] 375, .map #[] 0])[i]?:=λi T=>by rw[<-G];exact Yn _ w i T
    have p:Hid (FX w.heap.size w d []):=by
     have a9:d=w.heap.size+14:=by rw[<-G,Ym];rfl
     have a3:Below w w d:=by rw[<-G];exact Sc _ w
     clear I G;exact⟨⟨#[],0,key 13 (by omega),rfl⟩,Hw (key 2 (by omega)) 0,Hw (key 5 (by omega)) 0,Hw (key 8 (by omega)) 0,Hw (key 11 (by omega)) 0,Hw (key 12 (by omega)) 0,Hw (key 0 (by omega)) 0,Hw (key 3 (by omega)) 0,Hw (key 6 (by omega)) 0,Hw (key 9 (by omega)) 0,by omega,a3⟩
    rw[I];clear I G key;obtain⟨c1,c2,c3,c4,c5⟩:=And.intro p.c1 (And.intro p.c2 (And.intro p.c3 (And.intro p.c4 p.c5))))
  |(change wpList _ _ _ ({dst:=none,op:=Op.insert _ _ (Operand.const (Value.string ⟨#[99,114,101,97,116,101]⟩)) _,type:=_,pos:=_,after:=_,guard:=_}::_) _ _
    have a:=p.alloc (.cells #[Ae (w.heap.size),Ae (w+1+1+1+1+1+1+1+1+1)] 375);have L:Hid (C8 (d.alloc (.cells #[Ae (w.heap.size),Ae (w+1+1+1+1+1+1+1+1+1)] 375)) (.slice (some ⟨d,0,none⟩) 2 2) [Ae (w.heap.size),Ae (w+1+1+1+1+1+1+1+1+1)]/\d.heap.size≠w.heap.size+1+1+1+1+1+1+1+1+1+1+1+1+1):=⟨⟨_,rfl,Aa.new d [Ae (w.heap.size),Ae (w+1+1+1+1+1+1+1+1+1)] 375⟩,by have:=p.size;omega⟩;refine DJ rfl 371 369 _ _ _ rfl underlying371 (w+1+1+1+1+1+1+1+1+1+1+1+1+1) _ ⟨#[99,114,101,97,116,101]⟩ (.agg #[.int .i64 0, .slice (some ⟨d,0,none⟩) 2 2]) rfl rfl rfl a.map rfl ?_;intro E c b;obtain⟨q,a2⟩:=Hx2 (a.step b c) b;clear c b a c1 c2 c3 c4 c5;obtain⟨c1,c2,c3,c4,c5⟩:=And.intro q.c1 (And.intro q.c2 (And.intro q.c3 (And.intro q.c4 q.c5))))
  |(change wpList _ _ _ ({dst:=none,op:=Op.insert _ _ (Operand.const (Value.string ⟨#[100,101,108,101,116,101]⟩)) _,type:=_,pos:=_,after:=_,guard:=_}::_) _ _
    have a:=q.alloc (.cells #[Ae (w.heap.size)] 375);have M:Hid (C8 (E.alloc (.cells #[Ae (w.heap.size)] 375)) (.slice (some ⟨E,0,none⟩) 1 1) [Ae (w.heap.size)]/\E.heap.size≠w.heap.size+1+1+1+1+1+1+1+1+1+1+1+1+1):=⟨⟨_,rfl,Aa.new E [Ae (w.heap.size)] 375⟩,by have:=q.size;omega⟩;refine DJ rfl 371 369 _ _ _ rfl underlying371 (w+1+1+1+1+1+1+1+1+1+1+1+1+1) _ ⟨#[100,101,108,101,116,101]⟩ (.agg #[.int .i64 1, .slice (some ⟨E,0,none⟩) 1 1]) rfl rfl rfl a.map rfl ?_;intro z c b;obtain⟨r,K⟩:=Hx2 (a.step b c) b;clear c b a c1 c2 c3 c4 c5;obtain⟨c1,c2,c3,c4,c5⟩:=And.intro r.c1 (And.intro r.c2 (And.intro r.c3 (And.intro r.c4 r.c5))))
  |(change wpList _ _ _ ({dst:=none,op:=Op.insert _ _ (Operand.const (Value.string ⟨#[114,101,115,105,122,101]⟩)) _,type:=_,pos:=_,after:=_,guard:=_}::_) _ _
    have a:=r.alloc (.cells #[Ae (w.heap.size),Ae (w+1+1+1+1+1+1+1+1+1)] 375);have N:Hid (C8 (z.alloc (.cells #[Ae (w.heap.size),Ae (w+1+1+1+1+1+1+1+1+1)] 375)) (.slice (some ⟨z,0,none⟩) 2 2) [Ae (w.heap.size),Ae (w+1+1+1+1+1+1+1+1+1)]/\z.heap.size≠w.heap.size+1+1+1+1+1+1+1+1+1+1+1+1+1):=⟨⟨_,rfl,Aa.new z [Ae (w.heap.size),Ae (w+1+1+1+1+1+1+1+1+1)] 375⟩,by have:=r.size;omega⟩;refine DJ rfl 371 369 _ _ _ rfl underlying371 (w+1+1+1+1+1+1+1+1+1+1+1+1+1) _ ⟨#[114,101,115,105,122,101]⟩ (.agg #[.int .i64 2, .slice (some ⟨z,0,none⟩) 2 2]) rfl rfl rfl a.map rfl ?_;intro l c b;obtain⟨s,J⟩:=Hx2 (a.step b c) b;clear c b a c1 c2 c3 c4 c5;obtain⟨c1,c2,c3,c4,c5⟩:=And.intro s.c1 (And.intro s.c2 (And.intro s.c3 (And.intro s.c4 s.c5))))
  |(change wpList _ _ _ ({dst:=none,op:=Op.insert _ _ (Operand.const (Value.string ⟨#[114,101,97,100]⟩)) _,type:=_,pos:=_,after:=_,guard:=_}::_) _ _
    have a:=s.alloc (.cells #[Ae (w.heap.size),Ae (w+1+1+1+1+1+1)] 375);have O:Hid (C8 (l.alloc (.cells #[Ae (w.heap.size),Ae (w+1+1+1+1+1+1)] 375)) (.slice (some ⟨l,0,none⟩) 2 2) [Ae (w.heap.size),Ae (w+1+1+1+1+1+1)]/\l.heap.size≠w.heap.size+1+1+1+1+1+1+1+1+1+1+1+1+1):=⟨⟨_,rfl,Aa.new l [Ae (w.heap.size),Ae (w+1+1+1+1+1+1)] 375⟩,by have:=s.size;omega⟩;refine DJ rfl 371 369 _ _ _ rfl underlying371 (w+1+1+1+1+1+1+1+1+1+1+1+1+1) _ ⟨#[114,101,97,100]⟩ (.agg #[.int .i64 3, .slice (some ⟨l,0,none⟩) 2 2]) rfl rfl rfl a.map rfl ?_;intro j c b;obtain⟨t,H⟩:=Hx2 (a.step b c) b;clear c b a c1 c2 c3 c4 c5;obtain⟨c1,c2,c3,c4,c5⟩:=And.intro t.c1 (And.intro t.c2 (And.intro t.c3 (And.intro t.c4 t.c5))))
  |(change wpList _ _ _ ({dst:=none,op:=Op.insert _ _ (Operand.const (Value.string ⟨#[119,114,105,116,101]⟩)) _,type:=_,pos:=_,after:=_,guard:=_}::_) _ _
    have a:=t.alloc (.cells #[Ae (w.heap.size),Ae (w+1+1+1+1+1+1),GT] 375);have P:Hid (C8 (j.alloc (.cells #[Ae (w.heap.size),Ae (w+1+1+1+1+1+1),GT] 375)) (.slice (some ⟨j,0,none⟩) 3 3) [Ae (w.heap.size),Ae (w+1+1+1+1+1+1),GT]/\j.heap.size≠w.heap.size+1+1+1+1+1+1+1+1+1+1+1+1+1):=⟨⟨_,rfl,Aa.new j [Ae (w.heap.size),Ae (w+1+1+1+1+1+1),GT] 375⟩,by have:=t.size;omega⟩;refine DJ rfl 371 369 _ _ _ rfl underlying371 (w+1+1+1+1+1+1+1+1+1+1+1+1+1) _ ⟨#[119,114,105,116,101]⟩ (.agg #[.int .i64 4, .slice (some ⟨j,0,none⟩) 3 3]) rfl rfl rfl a.map rfl ?_;intro h c b;obtain⟨u,F⟩:=Hx2 (a.step b c) b;clear c b a c1 c2 c3 c4 c5;obtain⟨c1,c2,c3,c4,c5⟩:=And.intro u.c1 (And.intro u.c2 (And.intro u.c3 (And.intro u.c4 u.c5))))
  |(change wpList _ _ _ ({dst:=none,op:=Op.insert _ _ (Operand.const (Value.string ⟨#[100,105,115,99,97,114,100]⟩)) _,type:=_,pos:=_,after:=_,guard:=_}::_) _ _
    have a:=u.alloc (.cells #[Ae (w.heap.size),Ae (w+1+1+1+1+1+1),Ae (w+1+1+1+1+1+1+1+1+1)] 375);have Q:Hid (C8 (h.alloc (.cells #[Ae (w.heap.size),Ae (w+1+1+1+1+1+1),Ae (w+1+1+1+1+1+1+1+1+1)] 375)) (.slice (some ⟨h,0,none⟩) 3 3) [Ae (w.heap.size),Ae (w+1+1+1+1+1+1),Ae (w+1+1+1+1+1+1+1+1+1)]/\h.heap.size≠w.heap.size+1+1+1+1+1+1+1+1+1+1+1+1+1):=⟨⟨_,rfl,Aa.new h [Ae (w.heap.size),Ae (w+1+1+1+1+1+1),Ae (w+1+1+1+1+1+1+1+1+1)] 375⟩,by have:=u.size;omega⟩;refine DJ rfl 371 369 _ _ _ rfl underlying371 (w+1+1+1+1+1+1+1+1+1+1+1+1+1) _ ⟨#[100,105,115,99,97,114,100]⟩ (.agg #[.int .i64 5, .slice (some ⟨h,0,none⟩) 3 3]) rfl rfl rfl a.map rfl ?_;intro g c b;obtain⟨x,A⟩:=Hx2 (a.step b c) b;clear c b a c1 c2 c3 c4 c5;obtain⟨c1,c2,c3,c4,c5⟩:=And.intro x.c1 (And.intro x.c2 (And.intro x.c3 (And.intro x.c4 x.c5))))
  |(change wpList _ _ _ ({dst:=none,op:=Op.insert _ _ (Operand.const (Value.string ⟨#[115,110,97,112]⟩)) _,type:=_,pos:=_,after:=_,guard:=_}::_) _ _
    have a:=x.alloc (.cells #[Ae (w.heap.size),Ae (w+1+1+1)] 375);have R:Hid (C8 (g.alloc (.cells #[Ae (w.heap.size),Ae (w+1+1+1)] 375)) (.slice (some ⟨g,0,none⟩) 2 2) [Ae (w.heap.size),Ae (w+1+1+1)]/\g.heap.size≠w.heap.size+1+1+1+1+1+1+1+1+1+1+1+1+1):=⟨⟨_,rfl,Aa.new g [Ae (w.heap.size),Ae (w+1+1+1)] 375⟩,by have:=x.size;omega⟩;refine DJ rfl 371 369 _ _ _ rfl underlying371 (w+1+1+1+1+1+1+1+1+1+1+1+1+1) _ ⟨#[115,110,97,112]⟩ (.agg #[.int .i64 6, .slice (some ⟨g,0,none⟩) 2 2]) rfl rfl rfl a.map rfl ?_;intro a6 c b;obtain⟨C,m⟩:=Hx2 (a.step b c) b;clear c b a c1 c2 c3 c4 c5;obtain⟨c1,c2,c3,c4,c5⟩:=And.intro C.c1 (And.intro C.c2 (And.intro C.c3 (And.intro C.c4 C.c5))))
  |(change wpList _ _ _ ({dst:=none,op:=Op.insert _ _ (Operand.const (Value.string ⟨#[102,108,117,115,104]⟩)) _,type:=_,pos:=_,after:=_,guard:=_}::_) _ _
    have a:=C.out;refine DJ rfl 371 369 _ _ _ rfl underlying371 (w+1+1+1+1+1+1+1+1+1+1+1+1+1) _ ⟨#[102,108,117,115,104]⟩ (.agg #[.int .i64 7, .slice none 0 0]) rfl rfl rfl a.map rfl ?_;intro a7 c b;obtain⟨D,n⟩:=Hx2 (a.step b c) b;clear c b a c1 c2 c3 c4 c5;obtain⟨c1,c2,c3,c4,c5⟩:=And.intro D.c1 (And.intro D.c2 (And.intro D.c3 (And.intro D.c4 D.c5))))
  |(change wpList _ _ _ ({dst:=none,op:=Op.insert _ _ (Operand.const (Value.string ⟨#[115,116,97,116,117,115]⟩)) _,type:=_,pos:=_,after:=_,guard:=_}::_) _ _
    have a:=D.out;refine DJ rfl 371 369 _ _ _ rfl underlying371 (w+1+1+1+1+1+1+1+1+1+1+1+1+1) _ ⟨#[115,116,97,116,117,115]⟩ (.agg #[.int .i64 8, .slice none 0 0]) rfl rfl rfl a.map rfl ?_;intro f c b;obtain⟨y,o⟩:=Hx2 (a.step b c) b;clear c b a c1 c2 c3 c4 c5;obtain⟨c1,c2,c3,c4,c5⟩:=And.intro y.c1 (And.intro y.c2 (And.intro y.c3 (And.intro y.c4 y.c5))))
  |(change wpList _ _ _ ({dst:=none,op:=Op.insert _ _ (Operand.const (Value.string ⟨#[99,111,109,112,97,99,116]⟩)) _,type:=_,pos:=_,after:=_,guard:=_}::_) _ _
    have a:=y.alloc (.cells #[Ae (w+1+1+1+1+1+1+1+1+1)] 375);have S:Hid (C8 (f.alloc (.cells #[Ae (w+1+1+1+1+1+1+1+1+1)] 375)) (.slice (some ⟨f,0,none⟩) 1 1) [Ae (w+1+1+1+1+1+1+1+1+1)]/\f.heap.size≠w.heap.size+1+1+1+1+1+1+1+1+1+1+1+1+1):=⟨⟨_,rfl,Aa.new f [Ae (w+1+1+1+1+1+1+1+1+1)] 375⟩,by have:=y.size;omega⟩;refine DJ rfl 371 369 _ _ _ rfl underlying371 (w+1+1+1+1+1+1+1+1+1+1+1+1+1) _ ⟨#[99,111,109,112,97,99,116]⟩ (.agg #[.int .i64 9, .slice (some ⟨f,0,none⟩) 1 1]) rfl rfl rfl a.map rfl ?_;intro a5 c b;obtain⟨B,k⟩:=Hx2 (a.step b c) b;clear c b a c1 c2 c3 c4 c5;obtain⟨c1,c2,c3,c4,c5⟩:=And.intro B.c1 (And.intro B.c2 (And.intro B.c3 (And.intro B.c4 B.c5)))))
 refine A5 (v:= .map (some (w+1+1+1+1+1+1+1+1+1+1+1+1+1))) (by simp[results,results288,go_sem]) rfl ?_;clear c1 c2 c3 c4 c5;exact⟨rfl,_,_,_,_,_,_,_,_,B,Ju L.out.1 L.out.2 ((((((((((((((((a2.trans (AZ E _ _)).trans K).trans (AZ z _ _)).trans J).trans (AZ l _ _)).trans H).trans (AZ j _ _)).trans F).trans (AZ h _ _)).trans A).trans (AZ g _ _)).trans m).trans n).trans o).trans (AZ f _ _)).trans k),Ju M.out.1 M.out.2 ((((((((((((((K.trans (AZ z _ _)).trans J).trans (AZ l _ _)).trans H).trans (AZ j _ _)).trans F).trans (AZ h _ _)).trans A).trans (AZ g _ _)).trans m).trans n).trans o).trans (AZ f _ _)).trans k),Ju N.out.1 N.out.2 ((((((((((((J.trans (AZ l _ _)).trans H).trans (AZ j _ _)).trans F).trans (AZ h _ _)).trans A).trans (AZ g _ _)).trans m).trans n).trans o).trans (AZ f _ _)).trans k),Ju O.out.1 O.out.2 ((((((((((H.trans (AZ j _ _)).trans F).trans (AZ h _ _)).trans A).trans (AZ g _ _)).trans m).trans n).trans o).trans (AZ f _ _)).trans k),Ju P.out.1 P.out.2 ((((((((F.trans (AZ h _ _)).trans A).trans (AZ g _ _)).trans m).trans n).trans o).trans (AZ f _ _)).trans k),Ju Q.out.1 Q.out.2 ((((((A.trans (AZ g _ _)).trans m).trans n).trans o).trans (AZ f _ _)).trans k),Ju R.out.1 R.out.2 ((((m.trans n).trans o).trans (AZ f _ _)).trans k),Ju S.out.1 S.out.2 k⟩
theorem Sd{w w':World}(h:Below w w w'):Ac w w' (λ_=>False):=⟨h.os,h.tape,h.output,h.size,λk hk _=>h.block k hk⟩
def Lo(w0:World)(v:Value)(s:ByteArray)(q d:Rq):Prop:=∃(F:Nat) (cap:Array Value),v= .func (.func F) #[] cap/\(∀args w,(callFunc F args).run prog w= .ok (.enter F args) w)/\
 ∀c a,Below w0 w0 c->w0.heap.size<=a->Aa c a (Kv q) 39->Calls prog F (#[.pointer (some ⟨a,0,none⟩), .string s]++cap) c λe w'=>e= .returned (.bool true)/\Aa w' a (Kv d) 39/\Ac c w' (λb=>b=a)
theorem Pd(F:Nat)(g:∀args w,(callFunc F args).run prog w= .ok (.enter F args) w)(k:Nat)(d b:Nat)(c:UInt8)(hc:c=49\/c=50\/c=51\/c=52\/c=53)(a:World)(hb:a.cell? ⟨b,0,none⟩=some (.func (.func F) #[] #[]))
 (hF:∀n:Int,Calls prog F #[.pointer (some ⟨d,0,none⟩), n] a λe w'=>e= .returned (.tuple #[])/\w'=a.setCell ⟨d,k,none⟩ (.int .i64 n)):
 Calls prog 376 #[.pointer (some ⟨d,0,none⟩), .string ⟨#[c]⟩, .pointer (some ⟨b,0,none⟩)] a λe w'=>e= .returned (.bool true)/\w'=a.setCell ⟨d,k,none⟩ (.int .i64 ((c.toNat:Int) -48)):=by
 have f:=Ye c hc a;have hf:=hF ((c.toNat:Int) -48);generalize (c.toNat:Int) -48=n at*;clear hc hF;go_enter func376,ntmps376;go_wp2_with fail;refine f.mono ?_;rintro e h ⟨rfl,rfl⟩;clear f;go_wp2_with fail;refine hf.mono ?_;rintro e i ⟨rfl,rfl⟩;clear hf;go_wp2_with fail;refine A5 (v:= .bool true) (by simp[results,results376,go_sem]) rfl ?_;exact⟨rfl,rfl⟩
theorem nM(a:Nat)(vs:List Value)(T:TypeId)(n:Int)(b:World)(h:Aa b a vs T)(hl:vs.length=6):Calls prog 337 #[.pointer (some ⟨a,0,none⟩), n] b λe w'=>e= .returned (.tuple #[])/\w'=b.setCell ⟨a,1,none⟩ (.int .i64 n):=by
 have h1:=h.cell 1 (v:=vs[1]'(by omega)) (Bl (by omega));have h2:=h.free 1;go_enter func337,ntmps337;go_wp2_with fail
 go_end0
 exact⟨rfl,rfl⟩
theorem Lp{w0:World}{b:Nat}(hb:w0.cell? ⟨b,0,none⟩=some (.func (.func 337) #[] #[]))(hbl:b<w0.heap.size)(c:UInt8)(hc:c=49\/c=50\/c=51\/c=52\/c=53)(q:Rq):Lo w0 (Ae b) ⟨#[c]⟩ q {q with vol:=(c.toNat:Int) -48}:=by
 refine⟨_,_,rfl,DQ func376 (by kernel_rfl) rfl,λd a h0 _ f=>?_⟩;refine(Pd _ (DQ func337 (by kernel_rfl) rfl) 1 a b c hc d ((h0.cell (p:=⟨b,0,none⟩) hbl).trans hb) (λn=>nM a _ _ n d f rfl)).mono ?_;rintro e w' ⟨rfl,rfl⟩;exact⟨rfl,f.set 1 _,Ad d a 1 _⟩
theorem nN(a:Nat)(vs:List Value)(T:TypeId)(n:Int)(b:World)(h:Aa b a vs T)(hl:vs.length=6):Calls prog 338 #[.pointer (some ⟨a,0,none⟩), n] b λe w'=>e= .returned (.tuple #[])/\w'=b.setCell ⟨a,2,none⟩ (.int .i64 n):=by
 have h1:=h.cell 2 (v:=vs[2]'(by omega)) (Bl (by omega));have h2:=h.free 2;go_enter func338,ntmps338;go_wp2_with fail
 go_end0
 exact⟨rfl,rfl⟩
theorem nO{w0:World}{b:Nat}(hb:w0.cell? ⟨b,0,none⟩=some (.func (.func 338) #[] #[]))(hbl:b<w0.heap.size)(c:UInt8)(hc:c=49\/c=50\/c=51\/c=52\/c=53)(q:Rq):Lo w0 (Ae b) ⟨#[c]⟩ q {q with tv:=(c.toNat:Int) -48}:=by
 refine⟨_,_,rfl,DQ func376 (by kernel_rfl) rfl,λd a h0 _ f=>?_⟩;refine(Pd _ (DQ func338 (by kernel_rfl) rfl) 2 a b c hc d ((h0.cell (p:=⟨b,0,none⟩) hbl).trans hb) (λn=>nN a _ _ n d f rfl)).mono ?_;rintro e w' ⟨rfl,rfl⟩;exact⟨rfl,f.set 2 _,Ad d a 2 _⟩
theorem nP(a:Nat)(vs:List Value)(T:TypeId)(n:Int)(b:World)(h:Aa b a vs T)(hl:vs.length=6):Calls prog 339 #[.pointer (some ⟨a,0,none⟩), n] b λe w'=>e= .returned (.tuple #[])/\w'=b.setCell ⟨a,3,none⟩ (.int .i64 n):=by
 have h1:=h.cell 3 (v:=vs[3]'(by omega)) (Bl (by omega));have h2:=h.free 3;go_enter func339,ntmps339;go_wp2_with fail
 go_end0
 exact⟨rfl,rfl⟩
theorem Pe{w0:World}{b:Nat}(hb:w0.cell? ⟨b,0,none⟩=some (.func (.func 339) #[] #[]))(hbl:b<w0.heap.size)(c:UInt8)(hc:c=49\/c=50\/c=51\/c=52\/c=53)(q:Rq):Lo w0 (Ae b) ⟨#[c]⟩ q {q with blk:=(c.toNat:Int) -48}:=by
 refine⟨_,_,rfl,DQ func376 (by kernel_rfl) rfl,λd a h0 _ f=>?_⟩;refine(Pd _ (DQ func339 (by kernel_rfl) rfl) 3 a b c hc d ((h0.cell (p:=⟨b,0,none⟩) hbl).trans hb) (λn=>nP a _ _ n d f rfl)).mono ?_;rintro e w' ⟨rfl,rfl⟩;exact⟨rfl,f.set 3 _,Ad d a 3 _⟩
theorem nQ(a:Nat)(vs:List Value)(T:TypeId)(n:Int)(b:World)(h:Aa b a vs T)(hl:vs.length=6):Calls prog 340 #[.pointer (some ⟨a,0,none⟩), n] b λe w'=>e= .returned (.tuple #[])/\w'=b.setCell ⟨a,4,none⟩ (.int .i64 n):=by
 have h1:=h.cell 4 (v:=vs[4]'(by omega)) (Bl (by omega));have h2:=h.free 4;go_enter func340,ntmps340;go_wp2_with fail
 go_end0
 exact⟨rfl,rfl⟩
theorem Se{w0:World}{b:Nat}(hb:w0.cell? ⟨b,0,none⟩=some (.func (.func 340) #[] #[]))(hbl:b<w0.heap.size)(c:UInt8)(hc:c=49\/c=50\/c=51\/c=52\/c=53)(q:Rq):Lo w0 (Ae b) ⟨#[c]⟩ q {q with n:=(c.toNat:Int) -48}:=by
 refine⟨_,_,rfl,DQ func376 (by kernel_rfl) rfl,λd a h0 _ f=>?_⟩;refine(Pd _ (DQ func340 (by kernel_rfl) rfl) 4 a b c hc d ((h0.cell (p:=⟨b,0,none⟩) hbl).trans hb) (λn=>nQ a _ _ n d f rfl)).mono ?_;rintro e w' ⟨rfl,rfl⟩;exact⟨rfl,f.set 4 _,Ad d a 4 _⟩
theorem Yo{w0:World}(s T:ByteArray)(hf:∀a,Calls prog 342 #[.string s] a λe w'=>e= .returned (.tuple #[.string T, .bool true])/\Below a a w')(q:Rq):Lo w0 GT s q {q with text:=T}:=by
 refine⟨_,_,rfl,DQ func341 (by kernel_rfl) rfl,λa f _ _ g=>?_⟩;have h:=hf a;have d:=A0 g;clear hf g;show Calls prog 341 #[.pointer (some ⟨f,0,none⟩), .string s] a _;go_enter func341,ntmps341;go_wp2_with fail;refine h.mono ?_;rintro e k ⟨rfl,c⟩;have b:=d.below c;have h1:=b.cell 5 rfl;have h2:=b.free 5;obtain⟨i,j⟩:=Hx2 b c;clear h b c d;go_wp2_with fail;refine A5 (v:= .bool true) (by simp[results,results341,go_sem]) rfl ?_;exact⟨rfl,i.set 5 _,((Sd j).mono λ_ _ e=>e.elim).trans (Ad k f 5 _)⟩
def Yp(F:Fence)(n:Nat)(P:Program)(g:Nat)(lb:Array Value)(h:World->World->Prop)(f:Nat)(all:List ByteArray)(w:World):Prop:=
 ∀(l:Nat) (a:List ByteArray->World->Prop) (c:World),Below w w c->AbidesFrom c.heap.size a->(∀s b v,a s b->a s (b.setCell ⟨f,0,none⟩ v))->
  (∀pre x d,pre++[x]<+:all->a pre d->YieldAt F (n-1) P l #[.string x] d λe b=>e= .returned (.bool true)/\a (pre++[x]) b/\h d b)->
  a [] c->CallsIn F n P g (#[.func (.yield l) #[] #[]]++lb) c λe b=>(∃v,e= .returned v)/\a all b
theorem Sf(a:World)(B k:Nat)(v:Value)(h:k≠B)(hk:k<a.heap.size):(a.setCell ⟨B,0,none⟩ v).heap[k]?=a.heap[k]?:=
 (grownBy_setCell' a B v).block k hk (λe=>h (by cases e;rfl))
theorem nR{F:Fence}{n:Nat}{P:Program}{g:Operand}{k:Array Tmp}{assign body:Code}{Q:Exit->Act->World->Prop}{a:Act}{w:World}
 (X:F.round=none)(h1:1<=n){gf:Nat}{lb:Array Value}(M:a.eval g= .func (.func gf) #[] lb)(hFg:F.fn gf)(eg:∀args w,(callFunc gf args).run P w= .ok (.enter gf args) w)
 {Kp:World->World->Prop}{Bs:Nat}{all:List ByteArray}{w0:World}(hseq:Yp F (n-1) P gf lb Kp Bs all w0)(hBs:Bs<w.heap.size)
 (hKt:∀{A B C:World},Kp A B->Kp B C->Kp A C)(hKb:∀(b:World) (l:Nat) (o o':Obj),w<=l->b.heap[l]?=some o->o.isCells=false->o.isWalk=false->Kp b (b.putObj l o'))(hb0:Below w0 w0 w)(hps:k.size=1)
 (I:List ByteArray->World->Prop)(hI:OwnFrom w.heap.size I)(hIB:∀s b v,I s b->I s (b.setCell ⟨Bs,0,none⟩ v))(h0:I [] w)(a1:ByteArray->Act)
 (hassign:∀(l:Nat) (x:ByteArray) (b:World) (K:Act->World->Prop),K (a1 x) b->
  assign.wpIn (F.inRound l) (n-1-1) P (Exit.then K (λ_ _ _=>False)) {tmps:=(k.zip #[.string x]).foldl (λt (p,v)=>t.setIfInBounds p v) a.tmps,defers:=[]} b)
 (hbody:∀(l:Nat) (pre:List ByteArray) (x:ByteArray) (b:World),pre++[x]<+:all->I pre b->body.wpIn (F.inRound l) (n-1-1) P (ownPostG w.heap.size Kp I (λ_ _ _=>False) (pre++[x]) b) (a1 x) b)
 (hdone:∀(D:Nat) (b:World),w<=D->I all b->b.heap[D]?=some (.deferred (some []))->Q .normal {a with defers:={target:= .collected D,args:=#[]}::a.defers} b):
 (Code.rangeFunc g k assign body).wpIn F n P Q a w:=by
 refine wpIn_rangeFunc ?_;intro fn L;rw[X];obtain⟨f,h⟩:∃f:LoopState->Option Code->Loop,f=λa2 a0=>{state:=a2,pending:=a0,fn,tmps:=a.tmps,params:=k,assign,body,defers:=w.heap.size}:=⟨_,rfl⟩;obtain⟨d,i⟩:∃d,(w.alloc (.deferred (some []))).alloc (.loop (f .ready none))=d:=⟨_,rfl⟩;have H:d.heap[w.heap.size+1]?=some (.loop (f .ready none)):=by
  rw[<-i];have:=World.alloc_heap_new (w.alloc (.deferred (some []))) (.loop (f .ready none));rwa [Bx] at this
 have G:d.heap[w.heap.size]?=some (.deferred (some [])):=by
  rw[<-i];exact(H0 _ _ _ (by simp)).trans (World.alloc_heap_new w _)
 have E:I [] d:=by rw[<-i];exact hI.alloc _ (hI.alloc _ h0)
 have J:Below w0 w0 d:=by
  rw[<-i];exact hb0.trans ((((A2 _ w).alloc (A1 _) _).alloc (by simp) _).mono hb0.size)
 refine⟨w+1,[{target:= .collected w.heap.size,args:=#[]}],d,{target:= .fn (.func gf) lb,args:=#[.func (.yield (w+1)) #[] #[]]},d,gf,
  #[.func (.yield (w+1)) #[] #[]]++lb,d,?_,?_,?_,?_,λ_=>h1,?_⟩
 ·rw[<-i,h];exact run_enterLoop_outer _ _ _ _ _
 ·simp only[resolve,M];simp[go_sem]
 ·intro a7 y;simp[Target.leads] at y;subst y;exact hFg
 ·simp[invoke,go_sem,eg]
 ·have U:∀{A:World} {row:Option Nat},(∀c,row=some c->d.heap.size<=c/\∃o:Obj,A.heap[c]?=some o/\o.isWalk=true)->(∀c,row=some c->w.heap.size<=c/\∃o:Obj,A.heap[c]?=some o/\o.isCells=false):=
   λhr c e=>by obtain⟨u,o,V,Y⟩:=hr c e;exact⟨by rw[<-i] at u;simp at u;omega,o,V,Obj.not_cells_of_walk Y⟩
  refine(hseq (w+1)
   (λpre b=>I pre b/\b.heap[w.heap.size+1]?=some (.loop (f .ready none))/\b.heap[w.heap.size]?=some (.deferred (some []))) d J
   (λs A B row hs q hr=>⟨hI s A B row hs.1 q (U hr),(grownBy_keeps q (λc e=>(hr c e).2) hs.2.1 rfl).trans hs.2.1,(grownBy_keeps q (λc e=>(hr c e).2) hs.2.2 rfl).trans hs.2.2⟩)
   (λs m v hs=>⟨hIB s m v hs.1,(Sf m Bs _ v (by omega) (HO.1 hs.2.1).1).trans hs.2.1,(Sf m Bs _ v (by omega) (HO.1 hs.2.2).1).trans hs.2.2⟩)
   ?_ ⟨E,H,G⟩).mono ?_
  ·rintro pre x b W ⟨r,hl,hk⟩;have T:w.heap.size+1<b.heap.size:=(HO.1 hl).1;have hy:=run_yield (P:=P) (args:=#[.string x]) hl (by rw[h];exact hps.symm);rw[h] at hy;refine⟨fn,_,assign,body,hy,roundIn_of_wpIn L (hassign _ x b _ ?_)⟩;clear hy;refine⟨_,run_beginRound hl (by rw[h]),?_⟩;have S:(b.putObj (w+1) (.loop {f .ready none with state:= .busy})).heap[w.heap.size+1]?=some (.loop {f .ready none with state:= .busy}):=World.putObj_heap_same T;have O:(b.putObj (w+1) (.loop {f .ready none with state:= .busy})).heap[w.heap.size]?=some (.deferred (some [])):=(VX (by omega)).trans hk;have Z:Kp b (b.putObj (w+1) (.loop {f .ready none with state:= .busy})):=hKb _ _ _ _ (by omega) hl rfl rfl;refine wpIn_mono (hbody _ pre x _ W (hI.putObj _ r (by omega) hl rfl)) ?_;rintro e a5 a4 hp;cases e with
   |normal=>
    obtain⟨z,R,N⟩:=hp;have j:=z.same _ _ (by omega) S rfl;have hr:=run_endRound (P:=P) none j;rw[h] at hr j;refine⟨_,_,hr,rfl,⟨hI.putObj _ N (by omega) j rfl,?_,(VX (by omega)).trans (z.same _ _ (A1 _) O rfl)⟩,hKt (hKt Z R) (hKb _ _ _ _ (by omega) j rfl rfl)⟩;rw[h];exact World.putObj_heap_same (HO.1 j).1
   |ret=>exact hp.2.elim
   |exit id=>exact hp.2.elim
   |goto t=>exact hp.2.elim
   |panic a6=>exact hp.elim
   |outgrown=>exact hp.elim
  ·rintro e a3 ⟨⟨v,rfl⟩,r,hl,hk⟩;exact⟨none,_,by have:=run_endLoop (P:=P) hl (by rw[h];simp);rw[h] at this;exact this,hdone _ _ (A1 _) (hI.putObj _ r (by omega) hl rfl) ((VX (by omega)).trans hk)⟩
inductive El:ByteArray→List ByteArray→Prop where
 |last {s:ByteArray} (h:Lib.indexByte s.data.toList 32= -1):El s [s]
 |more {s:ByteArray} (i:Nat) {l:List ByteArray} (h:Lib.indexByte s.data.toList 32=(i:Int)) (hl:El (s.extract (i+1) s.size) l):El s (s.extract 0 i::l)
def C9(l:List ByteArray):List ByteArray:=l.filter (λs=>decide (s≠ByteArray.empty))
theorem nS(l:List UInt8)(c:UInt8):Lib.indexByte l c<(l.length:Int):=by
 induction l with
 |nil=>show(-1:Int)<0;omega
 |cons b l a=>
  unfold Lib.indexByte;split
  ·rw[BV];omega
  ·split
   ·rw[BV];omega
   ·rw[BV];omega
section
attribute [local go_sem] Oper.semAt_some
def IJ(m:Nat)(w:World)(s:ByteArray):Prop:=Aa w m [.string s] 9/\Aa w (m+1) [.string ⟨#[32]⟩] 9/\Aa w (m+2) [.int .i64 0] 3
def Ig(m:Nat)(a c:World):Prop:=(∀b,m<=b->b<m+3->b<a.heap.size->c.heap[b]?=a.heap[b]?)/\a<=c.heap.size
theorem nT{m:Nat}{A B C:World}(h:Ig m A B)(k:Ig m B C):Ig m A C:=⟨λb h1 h2 h3=>(k.1 b h1 h2 (B3 h3 h.2)).trans (h.1 b h1 h2 h3),A8 h.2 k.2⟩
theorem nU{m n:Nat}(hm:m+3<=n)(a:World)(l:Nat)(o o':Obj)(hl:n<=l)(_:a.heap[l]?=some o)(_:o.isCells=false)(_:o.isWalk=false):Ig m a (a.putObj l o'):=
 ⟨λb _ h2 _=>VX (by omega),(Hv a l o').size⟩
theorem nV(m:Nat)(a:World):Ig m a a:=⟨λ_ _ _ _=>rfl,A1 _⟩
theorem Ig.bx{m:Nat}{a b:World}{s:ByteArray}(h:Ig m a b)(k:IJ m a s):IJ m b s:=
 ⟨(h.1 m (by omega) (by omega) k.1.lt).trans k.1,(h.1 _ (by omega) (by omega) k.2.1.lt).trans k.2.1,(h.1 _ (by omega) (by omega) k.2.2.lt).trans k.2.2⟩
theorem IJ.put{m:Nat}{a:World}{s:ByteArray}(k:IJ m a s)(u:ByteArray):IJ m (a.setCell ⟨m,0,none⟩ (.string u)) u:=
 ⟨k.1.set 0 _,k.2.1.other (by omega) _ _,k.2.2.other (by omega) _ _⟩
def Sg(m:Nat)(w:World):Nat:=match w.cell? ⟨m,0,none⟩ with
 |some (.string s)=>s.size
 |_=>0
theorem Sh{m:Nat}{w:World}{s:ByteArray}(h:w.cell? ⟨m,0,none⟩=some (.string s)):Sg m w=s.size:=by unfold Sg;rw[h]
theorem nW(n:Nat)(U:2<=n)(l m:Nat)(all:List ByteArray)(p:ByteArray)(hp:El p all)(O:p.size<=1000000)(a:List ByteArray->World->Prop)(C:∀s b v,a s b->a s (b.setCell ⟨m,0,none⟩ v))
 (D:∀pre x r,pre++[x]<+:all->a pre r->YieldAt Fence.wide (n-1) prog l #[.string x] r λe b=>e= .returned (.bool true)/\a (pre++[x]) b/\Ig m r b)(W:World)(hb:IJ m W p)(h0:a [] W):
 CallsIn Fence.wide n prog 323 #[.func (.yield l) #[] #[], .pointer (some ⟨m+1,0,none⟩), .pointer (some ⟨m,0,none⟩), .pointer (some ⟨m+2,0,none⟩)] W λe b=>(∃v,e= .returned v)/\a all b:=by
 obtain⟨J,I,y,u,d⟩:=Hx5 D C hp h0 hb;have f1:=hb.2.1.cell 0 rfl;clear D C hp h0 hb;refine Ht func323 rfl trivial ?_ rfl;simp only[ntmps323,D2,BV,C4,Nat.reduceAdd,Nat.reduceSub,F1,F2,GV,F3,B7,D3];gi_wp2
 gi_loopw [7] (λ_ wr=>∃(pre rest:List ByteArray) (s:ByteArray),pre++rest=all/\El s rest/\s.size<=1000000/\IJ m wr s/\Hid (a pre wr)) (λ_ wr=>Sg m wr)
 case atStart=>exact⟨[],all,p,rfl,y,O,d,u⟩
 case round=>
  clear d y u f1;generalize wr=q at*;obtain⟨pre,rest,s,rfl,N,hs,hb,t⟩:=hrel;have z:=J pre;cases N with
  |last h=>
   obtain⟨L,tmps,assign,body,hy,g⟩:=z s q ⟨[],by simp⟩ t;have k:=hb.1.cell 0 rfl;have A:=hb.2.1.cell 0 rfl;have B:=hb.2.2.cell 0 rfl;have F:=Sh k;have c:=(FR (n:=n-1)).2 (Tryz.strings_Index_one s 32 q);rw[h] at c;have R:=A0 t;gi_wp2;refine⟨trivial,λ_=>by omega,c.mono ?_⟩;rintro e Q ⟨rfl,rfl⟩;clear c;gi_wp2;refine⟨λ_=>by omega,g.mono ?_⟩;rintro e K ⟨rfl,f,o⟩;have G:=A0 f;clear f o g hy;gi_wp2
   go_end0
   exact⟨⟨_,rfl⟩,G⟩
  |more i h hl=>
   have E:=nS s.data.toList 32;rw[h] at E;have M:s.data.toList.length=s.size:=by simp
   rw[M] at E;obtain⟨L,tmps,assign,body,hy,g⟩:=z (s.extract 0 i) q ⟨_,by simp;rfl⟩ t;have k:=hb.1.cell 0 rfl;have A:=hb.2.1.cell 0 rfl;have B:=hb.2.2.cell 0 rfl;have F:=Sh k;have c:=(FR (n:=n-1)).2 (Tryz.strings_Index_one s 32 q);rw[h] at c;have d:=A0 hb;gi_wp2;refine⟨trivial,λ_=>by omega,c.mono ?_⟩;rintro e Q ⟨rfl,rfl⟩;clear c;gi_wp2;refine⟨λ_=>by omega,g.mono ?_⟩;rintro e K ⟨rfl,f,o⟩;have j:=o.bx d;have S:=j.1.cell 0 rfl;have T:=j.2.1.cell 0 rfl;have X:=j.1.free 0;obtain⟨w,H⟩:=Hx2 (j.put (s.extract (i+1) s.size)) (I _ _ (.string (s.extract (i+1) s.size)) f);have P:=Sh (w.out.1.cell 0 rfl);have V:IntKind.i64.wrap ((i:Int)+1)=(i:Int)+1:=C0 _ (by omega);have g1:decide ((i:Int)+1<=(s.size:Int))=true:=Hc (by omega);clear f o g hy j d k A B;gi_wp2;refine⟨⟨pre++[s.extract 0 i],_,_,by simp,hl,?_,w,H⟩,?_⟩
   ·rw[KV];omega
   ·rw[P,F,KV];omega
theorem nX(n:Nat)(g:1<=n)(s:ByteArray)(w:World):
 CallsIn Fence.wide n prog 218 #[.string s, .string ⟨#[32]⟩] w λe w'=>e= .returned (.func (.func 323) #[] #[.pointer (some ⟨w+1,0,none⟩), .pointer (some ⟨w,0,none⟩), .pointer (some ⟨w+2,0,none⟩)])/\IJ w.heap.size w' s/\w'=w.heap.size+3/\Below w w w':=by
 have hb:=Xi w [.string s] [.string ⟨#[32]⟩] [.int .i64 0] 9 9 3;have h2:CallsIn Fence.wide (n-1) prog 282 #[.string s, .string ⟨#[32]⟩, .int .i64 0] w λe w'=>e= .returned (.func (.func 323) #[] #[.pointer (some ⟨w+1,0,none⟩), .pointer (some ⟨w,0,none⟩), .pointer (some ⟨w+2,0,none⟩)])/\w'=((w.alloc (.cells #[.string s] 9)).alloc (.cells #[.string ⟨#[32]⟩] 9)).alloc (.cells #[.int .i64 0] 3):=by
  refine Ht func282 rfl trivial ?_ rfl;simp only[ntmps282,D2,BV,C4,Nat.reduceAdd,Nat.reduceSub,F1,F2,GV,F3,B7,D3];have f:∀(b:Fn) (first cap:Array Value) (w:World),(Instr.makeFunc b first cap).run prog w= .ok (.func b first cap) w:=λ_ _ _ _=>rfl;gi_wp2;go_ret;exact⟨by simp,rfl⟩
 refine Ht func218 rfl trivial ?_ rfl;simp only[ntmps218,D2,BV,C4,Nat.reduceAdd,Nat.reduceSub,F1,F2,GV,F3,B7,D3];gi_wp2;refine⟨trivial,h2.mono ?_⟩;rintro e h ⟨rfl,a⟩;have c:=A0 a;clear a h2;gi_wp2;go_ret;have a:=c.out;subst a;have d:Below w w (((w.alloc (.cells #[.string s] 9)).alloc (.cells #[.string ⟨#[32]⟩] 9)).alloc (.cells #[.int .i64 0] 3)):=(((A2 _ w).alloc (A1 _) _).alloc (by simp) _).alloc (by simp;omega) _;exact⟨rfl,⟨hb.1,hb.2.1,hb.2.2.1⟩,by simp,d⟩
end
section
attribute [local go_sem] Oper.semAt_some
theorem nY(n:Nat)(f:2<=n)(s:ByteArray)(all:List ByteArray)(hp:El s all)(g:s.size<=1000000)(w:World)(m:Nat)(hb:IJ m w s):
 Yp Fence.wide n prog 323 #[.pointer (some ⟨m+1,0,none⟩), .pointer (some ⟨m,0,none⟩), .pointer (some ⟨m+2,0,none⟩)] (Ig m) m all w:=λl b c a _ d e h0=>
 nW n f l m all s hp g b d e c ⟨hb.1.below a,hb.2.1.below a,hb.2.2.below a⟩ h0
def Lq(n₀ b:Nat)(l:List ByteArray)(a:World):Prop:=∃v,Boxed a b 23 v/\a.ownsRow n₀ 9 1 v l.length (l.map Value.string)/\True
theorem nZ{c:Type}(n₀ a B:Nat)(f:c->List ByteArray):OwnFrom B (λs b=>Lq n₀ a (f s) b):=
 Own.from (holdsRow_own n₀ a 23 9 1 (λs=>(f s).length) (λs=>(f s).map Value.string) (λ_ _=>True)) B
theorem n6{n₀ a m:Nat}{l:List ByteArray}{b:World}(h:Lq n₀ a l b)(hm:m<n₀)(c:a≠m)(v:Value):Lq n₀ a l (b.setCell ⟨m,0,none⟩ v):=by
 obtain⟨u,d,hr,_⟩:=h;exact⟨u,d.other c v,hr.kept (grownBy_setCell' b m v) (Or.inr (λe=>by
  have:=Ah hr m e;omega)),trivial⟩
theorem Yq(s:ByteArray)(all:List ByteArray)(w:World)(hp:El s all)(ad:s.size<=1000000)(ak:all.length<=1000000):
 Calls prog 144 #[.string s] w λe w'=>∃a c,e= .returned (.slice a (C9 all).length c)/\w'.ownsRow w.heap.size 9 1 (.slice a (C9 all).length c) (C9 all).length ((C9 all).map Value.string)/\Below w w w':=by
 have ac:(prog.info? 9).map (λi=>(i.zero,i.size,i.bytes))=some (some (.string ⟨#[]⟩),1,16):=by kernel_rfl
 obtain⟨i0,ab,af,ag,ah⟩:=BW ac;refine(FR (n:=9)).1 ?_;refine M0 func144 rfl trivial ?_ rfl;simp only[ntmps144,D2,BV,C4,Nat.reduceAdd,Nat.reduceSub,F1,F2,GV,F3,B7,D3];have a1:Hid (Lq (w+4) w.heap.size [] (w.alloc (.cells #[.slice none 0 0] 23))):=⟨_,Boxed.new _ _ _,C2 _ _ _ _,trivial⟩;have N:Hid (Below w w (w.alloc (.cells #[.slice none 0 0] 23))):=(A2 _ w).alloc (A1 _) _;have M:(w.alloc (.cells #[.slice none 0 0] 23)).heap.size=w.heap.size+1:=by simp
 have H:=nX 8 (by omega) s (w.alloc (.cells #[.slice none 0 0] 23));rw[M] at H;gi_wp2;refine⟨trivial,H.mono ?_⟩;rintro e g ⟨rfl,S,Y,R⟩;have F:Below (w+1) (w.alloc (.cells #[.slice none 0 0] 23)) g:=M▸R;have a2:Hid (Lq (w+4) w.heap.size [] g):=⟨_,(F.block w.heap.size (by omega)).trans (Boxed.new _ _ _),C2 _ _ _ _,trivial⟩;have C:Hid (Below w w g):=N.trans (F.mono (by omega));obtain⟨a5,ai⟩:=Hx2 (nY (9-1) (by omega) s all hp ad g (w+1) S) Y;have ap:w.heap.size+4=g.heap.size:=by omega
 clear H S R F a1 N M Y;gi_wp2;refine nR rfl (by omega) (gf:=323) (lb:=#[.pointer (some ⟨w+1+1,0,none⟩), .pointer (some ⟨w+1,0,none⟩), .pointer (some ⟨w+1+2,0,none⟩)]) rfl trivial (enters_of func323 (by kernel_rfl) rfl)
  a5.out (by omega) nT (nU (by omega)) (A2 _ _) rfl
  (λpre d=>Lq (w+4) w.heap.size (C9 pre) d/\Below w w d/\w.heap.size+4<=d.heap.size)
  (G6 (nZ _ _ _ C9) (G6 (IW (A1 _) C.size) (λs A B row hs aa _=>A8 hs aa.size)))
  (λpre d v hs=>⟨n6 hs.1 (by omega) (by omega) v,hs.2.1.setCell (p:=⟨w+1,0,none⟩) (by show w<=w.heap.size+1;omega) _,by rw[Hj];exact hs.2.2⟩)
  ⟨a2,C,by omega⟩
  (λx=>{tmps:=#[.string s,undef, .slice none 0 0, .pointer (some ⟨w,0,none⟩), .string x, .string s, .func (.func 323) #[] #[.pointer (some ⟨w+1+1,0,none⟩), .pointer (some ⟨w+1,0,none⟩), .pointer (some ⟨w+1+2,0,none⟩)], .string x,undef,undef,undef,undef,undef,undef,undef],defers:=[]}) ?assign ?body ?done
 case assign=>
  intro l x d K k;gi_wp2;exact k
 case body=>
  rintro l pre x d V ⟨hc,j,L⟩;obtain⟨v,f,h,_⟩:=hc;have a8:=f.cell;have aj:=f.frozen;obtain⟨P,q,z⟩:=Hx3 f h j;have ao:(C9 pre).length<=1000000:=by
   have h1:(C9 pre).length<=pre.length:=K9 _ _;have h2:=V.length_le;rw[A9] at h2;omega
  clear f h j V;by_cases J:x=ByteArray.empty
  ·subst J;have E:Hid (C9 (pre++[ByteArray.empty])=C9 pre):=by unfold Hid C9;rw[H4];simp
   gi_wp2;exact⟨M4 _ _,nV _ _,by rw[E.out];exact⟨v,P,q,trivial⟩,z,L⟩
  ·have E:Hid (C9 (pre++[x])=C9 pre++[x]):=by unfold Hid C9;rw[H4];simp[J]
   have b1:x.toList.isEmpty=false:=by
    rw[Wm];cases hl:x.data.toList with
    |nil=>exact(J (ByteArray.ext (Array.ext' (hl.trans rfl)))).elim
    |cons _ _=>rfl
   gi_wp2_with (gi_at_builtin;refine wpListIn_append_own _ rfl _ _ 23 rfl (w+4) 9 i0 _ 1 16 underlying23 ab af ag ah rfl (by decide) _ _ _ rfl (q.alloc _) ⟨d,0,none⟩ 1 1 [.string x] rfl rfl (Hx _ _ _) (by simp[Value.oneCell']) (by simp[maxLen];omega) (by omega) (by simp;omega) ?_
                intro aq o G m _;obtain⟨t,r,rfl⟩:=ownsRow_succ G;have u:o.ownsRow (w+4) 9 1 (.slice (some ⟨t,0,none⟩) ((C9 pre).length+1) r) (C9 (pre++[x])).length ((C9 (pre++[x])).map Value.string):=by
                 rw[E.out,D1,A9];exact G
                obtain⟨I,X,y,T,Q⟩:=P.appended (by decide) (CI q (show w<=w.heap.size+4 by omega)) z.size (A1 _) (CI u (show w<=w.heap.size+4 by omega)) m;have W:(o.setCell ⟨w,0,none⟩ (.slice (some ⟨t,0,none⟩) ((C9 pre).length+1) r)).ownsRow (w+4) 9 1 (.slice (some ⟨t,0,none⟩) ((C9 pre).length+1) r) (C9 (pre++[x])).length ((C9 (pre++[x])).map Value.string):=
                 u.kept (grownBy_setCell' o w.heap.size _) (.inr (λe=>by have:=Ah u _ e;omega))
                have U:Ig (w+1) d (o.setCell ⟨w,0,none⟩ (.slice (some ⟨t,0,none⟩) ((C9 pre).length+1) r)):=⟨λb h1 h2 h3=>by
                 rw[Sf o w.heap.size b _ (by omega) (by have:=m.size;simp only[Bx] at this;omega)];rw[m.block b (by simp;omega) (λe=>by have:=Ah q.out b e.symm;omega)];exact H0 _ _ _ h3,by have:=m.size;simp only[Bx] at this;rw[Hj];omega⟩
                have al:=I.cell;have an:=I.frozen;obtain⟨a6,a4,a3,Z,O⟩:=Hx5 X W T Q U;clear G m u I X y W T Q U)
   exact⟨a3.from _,O,⟨_,a6,a4,trivial⟩,z.trans Z,A8 L O.out.2⟩
 case done=>
  rintro D d a9 ⟨⟨v,f,h,_⟩,j,L⟩ k;obtain⟨a,cap,rfl,_⟩:=Aw h;have y:=ownsRow_putObj h (.deferred none) k rfl;have a8:=f.cell;obtain⟨a7,a0⟩:=Hx2 y (j.trans (belowK_b (w:=g) C.size d D (.deferred (some [])) (.deferred none) a9 k rfl rfl));clear y f h j;gi_wp2;refine⟨by simp, .inl ⟨_,_,rfl,I0 k,?_⟩⟩;exact⟨_,results_tmp rfl _ _ _,a,cap,rfl,CI a7 (by omega),a0⟩
end
end Go.Proofs.YtmajkjjjfodhlaaGreatDoor
