/-
  package phase: out.
-/
import Derived.Test.YtlpdkbmmbdfoiaaGTa6
import Derived.Test.YtlpdkbmmbdfoiaaGPh10
import Derived.Test.YtlpdkbmmbdfoiaaGLi6
import Derived.Test.YtlpdkbmmbdfoiaaGRa3
set_option linter.unusedVariables false
set_option linter.unusedSimpArgs false
namespace Go.Proofs.Ytlpdkbmmbdfoiaa
open Go.RowKit
theorem step_app_spr {P:Program} (t e:TypeId) (i:TypeInfo) (ht:P.underlying t=some (.slice e)) (hi:P.info? e=some i) (hz:i.zero=some (.agg #[.bool false, .slice none 0 0, .slice none 0 0])) (hsize:i.size=3) (hby:i.bytes=56)
 {ops:Array Oper} {o:Oper} {a:Act} {w:World} {K:Act→World→Prop} {Q:Exit→Act→World→Prop} {E:Prop} (hgd:o.guard=none) (s x:Operand)
 (ho:o.op= .call { callee:= .builtin .append,args:=#[s,x],argTypes:=#[t,t] }) (hs:a.eval s= .slice none 0 0) (ad:Addr) (m c:Nat) (p:List Rat) (hxe:a.eval x= .slice (some ad) m c) (hf:zbb w (.slice (some ad) m c) p)
 (hn:p.length≤1000)
 (h:∀v' w',zya w' e w.heap.size v' p→Below w.heap.size w w'→zgc v'→K (a.put o.dst v') w'):
 if Region.wanted o (yielded ops a.tmps)=true then Oper.wp P o a w K Q else E:=by
 obtain⟨news,n1,n2,n3,n4,n5⟩:=hf.cells
 have hm:m=p.length:=hf.len
 rw[if_pos (by simp[Region.wanted,hgd])]
 obtain⟨v',w',hr,k1,k2,k3,k4⟩:=zwd (P:=P) w w.heap.size t o.type e i _ 3 56 ht hi hz hsize hby rfl (by decide) (.slice none 0 0) 0 [] (World.ownsRow_nil w _ e 3) ad m c news (by rw[n1,hm])
  (fun j u hu=>by have:=n2 j u hu;simpa only[ptr,base]using this) n4 (by simp[maxLen];omega) (by omega) (Nat.le_refl _) (zlb.nil _) n5 (fun c hc z=>by
   have hc2:c∈ [Value.bool false, .slice none 0 0, .slice none 0 0]:=hc
   simp at hc2;rcases hc2 with rfl | rfl<;>simp)
 unfold Oper.wp execOp
 simp only[ho,resolve,invoke,builtin,Sem.run_bind,Sem.run_pure,Result.andThen_ok,List.map_toArray,List.map_cons,List.map_nil,hs,hxe,hr]
 have hR:zlc w' e w.heap.size 3 v' (0+m) ([]++news):=⟨k1,k4⟩
 rw[Nat.zero_add,List.nil_append,hm]at hR
 have hb:Below w.heap.size w w':=zna k2 (Nat.le_refl _) (fun k hk=>by cases hk)
 exact h v' w' ⟨news,hR,n3.grown (u:= .slice none 0 0) k2 (zlb.nil _)⟩ hb hR.sl
theorem zjf.newB {b:Nat} (w:World) (cs:Array Value) (ty:TypeId) (hb:w.heap.size=b):zjf (w.alloc (.cells cs ty)) b cs:=by subst hb;exact zjf.new w cs ty
theorem zya.belowS {w w':World} {e:TypeId} {B:Nat} {v:Value} {q:List Rat} (h:zya w e B v q) (hb:Below w.heap.size w w'):zya w' e B v q:=h.moves (zhb.below (B:=B) hb) (Nat.le_refl _)
theorem zxb.rlen {l:LQ} (h:zxb l) {i:Nat} (hi:i<l.start.length):i<l.rates.length:=by rw[h.rl];exact hi
def zxf (l:LQ) (i:Nat):Rat:=zgg (l.rates.getD i []++ [l.exit.getD i 0])
theorem zxb.outL {l:LQ} (h:zxb l) {i:Nat} (hi:i<l.start.length):∀q∈l.rates.getD i []++ [l.exit.getD i 0],zvg q:=by
 have h1:=h.rlen hi
 have h2:i<l.exit.length:=by rw[h.el];exact hi
 intro q hq
 rcases List.mem_append.1 hq with h3 | h3
 ·rw[List.getD_eq_getElem?_getD,List.getElem?_eq_getElem h1]at h3
  exact(h.row i h1).2.1 q h3
 ·rw[List.getD_eq_getElem?_getD,List.getElem?_eq_getElem h2]at h3
  simp at h3
  subst h3
  exact h.ex _ (List.getElem_mem h2)
set_option maxRecDepth 100000 in
set_option maxHeartbeats 6400000 in
theorem zln (va:Value) (l:LQ) (i:Nat) (w:World) (ha:zhm w va l) (hl:zxb l) (hi:i<l.start.length):Calls Try.prog 25 #[va, .int .i64 (i:Nat)] w (RF1 w (zxf l i)):=by
 obtain⟨i3,hi3,hz3,hs3,hy3⟩:=info_parts Try.infoF
 have hAP:=fun{ops:Array Oper} {o:Oper} {a:Act} {w:World} {K:Act→World→Prop} {Q:Exit→Act→World→Prop} {E:Prop}=>zcg (P:=Try.prog) 23 32 i3 Try.underlying23 hi3 hz3 hs3 hy3 (ops:=ops) (o:=o) (a:=a) (w:=w) (K:=K) (Q:=Q) (E:=E)
 have hAV:=fun{ops:Array Oper} {o:Oper} {a:Act} {w:World} {K:Act→World→Prop} {Q:Exit→Act→World→Prop} {E:Prop}=>step_app_spr (P:=Try.prog) 23 32 i3 Try.underlying23 hi3 hz3 hs3 hy3 (ops:=ops) (o:=o) (a:=a) (w:=w) (K:=K) (Q:=Q) (E:=E)
 clear hi3 hz3 hs3 hy3
 obtain⟨nm,sv,rv,ev,rfl,hs,hr,he⟩:=id ha
 obtain⟨ra,rn,rk,rfl,_⟩:=id hr.sl
 obtain⟨sa,sn,sk,rfl,_⟩:=id hs.sl
 obtain⟨ea,en,ek,rfl,_⟩:=id he.sl
 have hba:=zca w (.cells #[nm, .slice sa sn sk, .slice ra rn rk, .slice ea en ek] 26)
 have hbb:=zca (w.alloc (.cells #[nm, .slice sa sn sk, .slice ra rn rk, .slice ea en ek] 26)) (.cells #[.bool false, .slice none 0 0, .slice none 0 0] 32)
 have HC:=zH ((C4.new w 26 nm (.slice sa sn sk) (.slice ra rn rk) (.slice ea en ek)).belowS hbb)
 have HT:=zH (C3.newB (b:=w.heap.size+1) (w.alloc (.cells #[nm, .slice sa sn sk, .slice ra rn rk, .slice ea en ek] 26)) 32 (.bool false) (.slice none 0 0) (.slice none 0 0) (by show(w.heap.push _).size=_;rw[Array.size_push]))
 have HBW:=zH (zaa hba hbb)
 have HR:=zH (hr.below HBW.out)
 have HE:=zH (he.below HBW.out)
 have hi1:=hl.rlen hi
 have hi2:i<l.exit.length:=by rw[hl.el];exact hi
 have hen:en=l.start.length:=he.len.trans hl.el
 have hrn:rn=l.start.length:=hr.len.trans hl.rl
 obtain⟨n,hnn⟩:∃n,l.start.length=n:=⟨_,rfl⟩
 have HN:=zH hnn
 rw[hnn]at hen hrn hi
 have n4:n≤4:=by rw[←hnn];exact hl.n4
 obtain rfl:en=n:=hen
 obtain rfl:rn=en:=hrn
 have HL:=zH hl
 have HLL:=zH (hl.outL (by rw[HN.out];exact hi))
 have hlr:(l.rates[i]'hi1).length=rn:=by rw[(hl.row i hi1).1,HN.out]
 have hgr:l.rates.getD i []=l.rates[i]'hi1:=by rw[List.getD_eq_getElem?_getD,List.getElem?_eq_getElem hi1];rfl
 have hge:l.exit.getD i 0=l.exit[i]'hi2:=by rw[List.getD_eq_getElem?_getD,List.getElem?_eq_getElem hi2];rfl
 obtain⟨Q,hQ⟩:∃Q,l.rates[i]'hi1=Q:=⟨_,rfl⟩
 obtain⟨x,hx⟩:∃x,l.exit[i]'hi2=x:=⟨_,rfl⟩
 have hOQ:zxf l i=zgg (Q++ [x]):=by unfold zxf;rw[hgr,hge,hQ,hx]
 rw[hgr,hge,hQ,hx]at HLL
 rw[hQ]at hlr
 rw[hOQ]
 have srt:=hr.sl
 have sxt:=he.sl
 clear hs hr he ha hl hba hbb hnn hgr hge hOQ
 go_enter Try.func25,Try.ntmps25
 go_upto_region 1 with fail
 generalize (w.alloc (.cells #[nm, .slice sa sn sk, .slice ra rn rk, .slice ea rn ek] 26)).alloc (.cells #[.bool false, .slice none 0 0, .slice none 0 0] 32)=W2 at *
 obtain⟨row,hc0,hrow⟩:=HR.out.at' i hi1
 obtain⟨a0,b0,g1,g2,g3,g4,g5⟩:=HE.out.at' i hi2
 rw[hx]at g1 g4 g5
 rw[hQ]at hrow
 obtain⟨a1,a2,a3,rfl,_⟩:=id g4.v.sl
 obtain⟨b1,b2,b3,rfl,_⟩:=id g5.v.sl
 have HX:Hid (zqa W2 (.agg #[.bool (decide (x<0)), .slice a1 a2 a3, .slice b1 b2 b3]) x):=zH ⟨_,_,rfl,g4,g5⟩
 obtain⟨o1,o2,o3,rfl,_,_,ho⟩:=id hrow.sl
 have ho2:rn=o2:=by have h:=hrow.len;rw[hlr]at h;exact h.symm
 subst ho2
 obtain⟨ad,rfl⟩:∃ad,o1=some ad:=by
  cases o1 with
  | none=>have:=ho rfl;omega
  | some ad=>exact⟨ad,rfl⟩
 have HROW:=zH hrow
 obtain⟨_,c0,c1,c2,c3,_⟩:=HC.out
 have S0:=zH (And.intro c2 (And.intro hc0 (And.intro c3 (And.intro g1 (And.intro g2 g3)))))
 have j1:(0:Int)≤(i:Int):=by omega
 have j2:(i:Int)<(rn:Nat):=by omega
 clear hrow g4 g5 ho c0 c1 c2 c3 g1 g2 g3 hc0 hQ hx
 go_cut [5,6] (fun u5 u6 wy=>∃ (b5:Nat) (t':Bool) (x' y':Value),u5= .pointer (some ⟨b5,0,none⟩)∧C3 wy b5 (.bool t') x' y'∧zqa wy (.agg #[.bool t',x',y']) (zgg (Q++ [x]))∧Below W2.heap.size W2 wy∧W2.heap.size≤b5)
 case first =>
  go_region_held3 (fun w'=>w'.cell? ⟨w.heap.size,2,none⟩=some (.slice ra rn rk)∧w'.cell? (ptr (.slice ra rn rk) i)=some (.slice (some ad) rn o3)∧w'.cell? ⟨w.heap.size,3,none⟩=some (.slice ea rn ek)∧w'.cell? (ptr (.slice ea rn ek) (i*3))=some (.bool (decide (x<0)))∧w'.cell? (ptr (.slice ea rn ek) (i*3+1))=some (.slice a1 a2 a3)∧w'.cell? (ptr (.slice ea rn ek) (i*3+2))=some (.slice b1 b2 b3)∧Below W2.heap.size W2 w') (first
   | with_reducible exact keep6a S0.out (zja _)
   | with_reducible exact keep6a S0.out hB12
   | with_reducible exact keep6a S0.out (zaa hB13 (zca _ _))
   | with_reducible exact keep6w (by assumption) (zca _ _)
   | with_reducible exact keep6w (by assumption) (by assumption)
   |(with_reducible refine keep6s S0.out hB13 ?_ _ _ _;omega)) (first
   |(refine hAV rfl _ _ rfl rfl ad rn o3 Q rfl (HROW.out.below (zgi (by assumption))) (by omega) ?_;intro v5 w5 hf5 hb5 hs5
     have hk5:=hf5.block
     (try simp only[zfk,zvo]at hk5)
     have hf5:=hf5.mono (zgi (by assumption)).size
     obtain⟨p1,p2,p3,rfl,_⟩:=id hs5
     have hB5:=zaa (zgi (by assumption)) hb5
     have z5:=hB5.size
     have zq:=hb5.size
     (try simp only[zfk,zvo]at zq))
   |(refine hAP rfl _ _ rfl W2.heap.size (.slice p1 p2 p3) Q rfl ?_ (.bool (decide (x<0))) (.slice a1 a2 a3) (.slice b1 b2 b3) x ?_ _ rfl ?_ (by omega) (zgi (by assumption)).size ?_
     ·first
       | exact hf5
       | exact hf5.belowS (zca _ _)
       | exact(hf5.belowS (zca _ _)).belowS (zca _ _)
     ·exact HX.out.below (zgi (by assumption))
     ·first
       | exact zjf.new _ _ _
       | exact zjf.newB _ _ _ (zfk _ _)
       | exact((zjf.new _ _ _).below (zja _)).below hb5
       | exact((zjf.newB _ _ _ (zfk _ _)).below (zja _)).below hb5
       | exact(zjf.new _ _ _).below (zca _ _)
       | exact(((zjf.new _ _ _).below (zja _)).below hb5).below (zca _ _)
       | exact(((zjf.new _ _ _).below (zca _ _)).below (zja _)).below hb5
     intro v12 w12 hf12 hg12 hn12 ho12
     have hB12:=(zgi (by assumption)).trans (zna hg12 (zgi (by assumption)).size (fun k hk=>(hf5.block k hk).1))
     have z12:=hB12.size
     have zg:=hg12.size
     (try simp only[zfk,zvo]at zg)
     (first
      | have hC17:=(C3.new w5 32 (.bool false) (.slice none 0 0) (.slice none 0 0)).grownB hg12 (fun e=>(by have:=hk5 _ e;omega))
      | have hC17:=((C3.new w5 32 (.bool false) (.slice none 0 0) (.slice none 0 0)).belowS (zca _ (.cells #[.bool (decide (x<0)), .slice a1 a2 a3, .slice b1 b2 b3] 32))).grownB hg12 (fun e=>(by have:=hk5 _ e;omega))
      | have hC17:=(C3.newB (b:=w5.heap.size+1) (w5.alloc (.cells #[.bool (decide (x<0)), .slice a1 a2 a3, .slice b1 b2 b3] 32)) 32 (.bool false) (.slice none 0 0) (.slice none 0 0) (zfk _ _)).grownB hg12 (fun e=>(by have:=hk5 _ e;omega))
      | have hC17:=((((C3.new W2 32 (.bool false) (.slice none 0 0) (.slice none 0 0)).belowS (zja _)).belowS hb5).belowS (zca _ (.cells #[.bool (decide (x<0)), .slice a1 a2 a3, .slice b1 b2 b3] 32))).grownB hg12 (fun e=>(by have:=hk5 _ e;omega))
      | have hC17:=(((C3.new W2 32 (.bool false) (.slice none 0 0) (.slice none 0 0)).belowS (zja _)).belowS hb5).grownB hg12 (fun e=>(by have:=hk5 _ e;omega))
      | have hC17:=((((C3.new W2 32 (.bool false) (.slice none 0 0) (.slice none 0 0)).belowS (zca _ (.cells #[.bool (decide (x<0)), .slice a1 a2 a3, .slice b1 b2 b3] 32))).belowS (zja _)).belowS hb5).grownB hg12 (fun e=>(by have:=hk5 _ e;omega))
      | have hC17:=(((C3.newB (b:=W2.heap.size+1) (W2.alloc (.cells #[.bool (decide (x<0)), .slice a1 a2 a3, .slice b1 b2 b3] 32)) 32 (.bool false) (.slice none 0 0) (.slice none 0 0) (zfk _ _)).belowS (zja _)).belowS hb5).grownB hg12 (fun e=>(by have:=hk5 _ e;omega))
      | skip)
     (try obtain⟨_,d0,d1,d2,f0,f1,f2⟩:=id hC17)
     obtain⟨y1,y2,y3,rfl,_⟩:=id hf12.sl)
   |(go_at_call 55;first
      |((with_reducible refine(ztn _ (Q++ [x]) _ hf12.fracs HLL.out ?_).mono ?_);focus (rw[List.length_append];simp;omega)
        rintro e13 w13 ⟨v13,rfl,hv13,hb13⟩
        (try have hC13:=hC17.belowS hb13))
      |((with_reducible refine(ztn _ (Q++ [x]) _ (hf12.fracs.below (zca _ _)) HLL.out ?_).mono ?_);focus (rw[List.length_append];simp;omega)
        rintro e13 w13 ⟨v13,rfl,hv13,hb13⟩
        have hC13:=(C3.new w12 32 (.bool false) (.slice none 0 0) (.slice none 0 0)).belowS hb13)
     have hB13:=zaa (zgi (by assumption)) hb13
     have z13:=hB13.size
     (try clear d0 d1 d2 f0 f1 f2)
     (try obtain⟨_,d0,d1,d2,f0,f1,f2⟩:=id hC13)
     obtain⟨t13,x13,y13,rfl,⟨a81,l81,k81,rfl,_⟩,⟨a82,l82,k82,rfl,_⟩⟩:=hv13.isF))
  all_goals
   have hE:=zgi (by assumption)
   go_wp2_with fail
   go_meet
   case rel=>
    first
     | exact⟨_,_,_,_,rfl,C3.new w13 _ _ _ _,hv13.below (zca _ _),hE,hB13.size⟩
     | exact⟨_,_,_,_,rfl,hC13.set _ _ _,hv13.set3 hC13 (fun z=>by simp) (fun z=>by simp) _ _ _,hE,by omega⟩
 case rest=>
  obtain⟨b5,t8,x8,y8,rfl,hC6,hv6,hb6,hbb⟩:=hcut
  obtain⟨w3,hw3⟩:∃w3,w3=wc:=⟨_,rfl⟩
  subst hw3
  obtain⟨_,_,_,hF6,⟨a81,l81,k81,rfl,_⟩,⟨a82,l82,k82,rfl,_⟩⟩:=hv6.isF
  injection hF6 with hF6
  injection hF6 with hF6
  simp only[List.cons.injEq,and_true,Value.bool.injEq]at hF6
  obtain⟨rfl,rfl,rfl⟩:=hF6
  have HT3:=zH (HT.out.below hb6 HT.out.lt)
  have HV6:=zH hv6
  have HB6:=zH (zaa HBW.out hb6)
  obtain⟨_,d0,d1,d2,_⟩:=hC6
  obtain⟨_,e0,e1,e2,f0,f1,f2⟩:=HT3.out
  clear hv6 hb6 S0
  go_wp2_with fail
  refine zab rfl rfl Try.aggF Try.sizeF (HT3.out.set _ _ _) rfl ?_
  exact⟨_,rfl,HV6.out.set3 HT3.out (fun z=>by simp) (fun z=>by simp) _ _ _,zga HB6.out (Nat.le_succ _) _ _ _⟩
end Go.Proofs.Ytlpdkbmmbdfoiaa
