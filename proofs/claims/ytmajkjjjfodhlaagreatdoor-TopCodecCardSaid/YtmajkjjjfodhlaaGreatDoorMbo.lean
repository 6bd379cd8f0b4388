/- Part Mbo. No condition of its own. -/
import Derived.Test.YtmajkjjjfodhlaaGreatDoorRows
import Derived.Lib.LaidU8
import Derived.Lay
import Derived.SevenTiedAt
import Derived.Test.YtmajkjjjfodhlaaGreatDoorMbn
namespace Go.Proofs.YtmajkjjjfodhlaaGreatDoor
open Go.RowKit Go.Proofs.Tryz
set_option linter.all false
set_option maxRecDepth 100000
set_option maxHeartbeats 8000000
section
open Go.ChangeShapes Go.WideShapes Go.ChangeAt Go.RowKit Go.Joins
open Go.ChangeMaps (open_string shut_string)
abbrev KB:List (String×DataW Unit):=Rows.topCodecRow.laid
abbrev YC:String:=(KB.getD 1 ((KB.getD 0 default))).1
theorem pw:ownKnob prog.godebug=none:=by kernel_rfl
theorem px{a:World}(h:laidMet prog KB a):BC a:=by
 obtain⟨g,t,cs,m,p,c,i,j,hd⟩:=Lib.laidMet.reads h (n:=YC) (d:=Rows.laid_math_bits_deBruijn64tab) (.tail _ (.head _));obtain rfl:=L9 ((show prog.globalNamed YC=some 6 by kernel_rfl).symm.trans c);obtain rfl:=L9 ((show(prog.globals[6]?).map (·.type)=some 462 by kernel_rfl).symm.trans i);obtain⟨f,d,q,e,b⟩:=Lib.array_elem underlying462 hd 15 (by omega);obtain rfl:DataW.lit (.int .u8 4)=d:=L9 (show some (DataW.lit (.int .u8 4))=some d from e);rw[show prog.cellsOf 5=1 by kernel_rfl] at b;obtain⟨l,hc,k,_⟩:=DataW.trod_int underlying5 b;obtain⟨rfl,_⟩:4=l/\q=[]:=by simpa using k
 have h2:cs[15]?=some (.int .u8 4):=by
  have:=congrArg (·[0]?) hc;simpa[List.getElem?_take,RX] using this
 exact(World.var?_cell c j 15).trans h2
theorem py(os:Os)(r:os.Started)(H:Type)(enc:TypeId×Value->H):
 ReturnsInHanded {} Tryz.checked os 3 .any (λw args=>(Rows.topCodecSpec.pre enc prog Tryz.f3 [] false w args/\laidMetH prog KB w)/\sizedMet enc prog Tryz.f3 (OpenSpec.ofChange Rows.topCodecSpec) false w args)
  (Rows.topCodecSpec.post enc prog Tryz.f3 false true false false):=by
 refine returnsInHanded_of_change_and (C:=Tryz.checked) (X:=λw _=>laidMetH prog KB w) (λ_ _ _ n h=>h.of_heap n) pw r (by kernel_rfl) func3
  (ChangeSpec.witness_shaped (enc:=enc) (C:=Tryz.checked) (os:=os) (X:=λw _=>laidMetH prog KB w) false (World.laidAll prog os KB) #[.string ByteArray.empty] 8 (World.laidAll_os _ _ _)
   (World.shaped_of_ZipB (by kernel_rfl) (by kernel_rfl)) (by kernel_rfl) (by kernel_rfl) (by kernel_rfl)
   (by rw[MakeChecks.laidMetH_plain _ _ _ (by kernel_rfl)];exact laidMet_laidAll _ (by kernel_rfl) (by kernel_rfl))) ?_
 intro a base args i B z o d _ _ c _;have g:∀(j:Nat) t v,Tryz.f3.params[j]?=some t->args[j]?=some v->Value.okWide prog a .any base t v:=o;have f:=d;obtain⟨p,q,k,l,rfl,_,_⟩:=d;have b:DataW.TrodAll enc prog a 0 (λ_=>true) true Tryz.f3.params.toList args.toList i p:=k;rw[Tryz.params3] at b g;obtain⟨u,A,rfl,rfl,h0⟩:=trodAll_one b;obtain⟨rfl,rfl⟩:=trodVars_none l;obtain⟨s,rfl,rfl,rfl,x⟩:=open_string underlying9 (g 0 9 u rfl rfl) h0;simp only[E5] at f;rw[MakeChecks.laidMetH_plain _ _ _ (by kernel_rfl)] at c;refine(pu s a (px c)).mono λe y ⟨m,hb⟩=>?_;subst m;exact⟨_,rfl,_,_,_,[],[],[],f,trodAll_mk1 (shut_bool underlying4 _),trodAll_mk1 (shut_string underlying9 x),rfl,hb.frame _,λh=>by cases h⟩
end
theorem pz:joinedFacts prog 3 Tryz.f3 Rows.topCodecSpec Rows.topCodecRow=true:=by
 unfold joinedFacts
 repeat' with_reducible refine Bool.and_eq_true_iff.2 ⟨?_,?_⟩
 all_goals as_aux_lemma=>kernel_rfl
end Go.Proofs.YtmajkjjjfodhlaaGreatDoor
