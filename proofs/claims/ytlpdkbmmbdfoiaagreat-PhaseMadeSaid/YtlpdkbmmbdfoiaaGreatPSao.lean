/- Lemmas. -/
import Derived.Test.YtlpdkbmmbdfoiaaGreatPOwR
set_option linter.unusedVariables false
set_option linter.unusedSimpArgs false
namespace Go.Proofs.YtlpdkbmmbdfoiaaGreat
open Go.RowKit
theorem step_app_R {P:Program} {ops:Array Oper} {o:Oper} {a:Act} {w:World} {K:Act->World->Prop} {Q:Exit->Act->World->Prop} {E:Prop} (hgd:o.guard=none) (s x:Operand) (t:TypeId)
 (ho:o.op= .call { callee:= .builtin .append,args:=#[s,x],argTypes:=#[t,t] })
 (B:Nat) (e:TypeId) (i:TypeInfo) (z:Value) (size bytes:Nat) (ht:P.underlying t=some (.slice e)) (hi:P.info? e=some i) (hz:i.zero=some z)
 (hsize:i.size=size) (hby:i.bytes=bytes) (hzs:z.cells.size=size) (hsz:0<size) (hnz:∀c∈z.cells.toList,∀z,c≠ .int .u32 z)
 (v:Value) (n:Nat) (xs:List Value) (hs:a.eval s=v) (hown:zkc w e B size v n xs) (news:List Value) (hns:news.length=size) (ad:Addr) (hxe:a.eval x= .slice (some ad) 1 1)
 (hnews:∀j u,news[j]? =some u->w.cell? (ad.add j)=some u) (h1:∀u∈news,u.oneCell'=true) (hnn:∀c∈news,∀z,c≠ .int .u32 z)
 (h63:n+1<=maxLen) (hbytes:(n+1)*bytes<=140737488355328) (hbase:B<=w.heap.size)
 (h:∀v' w',zkc w' e B size v' (n+1) (xs++news)->w.grownBy w' v.ownBlock->K (a.put o.dst v') w'):
 if Region.wanted o (yielded ops a.tmps)=true then Oper.wp P o a w K Q else E:=by
 rw[zIP (by simp[Region.wanted,hgd])];obtain⟨v',w',hr,h2,h3,h4,h5⟩:=zid (P:=P) w B t o.type e i z size bytes ht hi hz hsize hby hzs hsz v n xs hown.own ad 1 1 news (by simp[hns]) hnews h1 h63 hbytes hbase hown.nl hnn hnz;unfold Oper.wp execOp;simp only[ho,resolve,invoke,builtin,Sem.run_bind,Sem.run_pure,Result.andThen_ok,List.map_toArray,List.map_cons,List.map_nil,hs,hxe,hr];exact h v' w' ⟨h2,h5⟩ h3
theorem step_app_one {P:Program} (t e:TypeId) (i:TypeInfo) (z:Value) (bytes:Nat) (ht:P.underlying t=some (.slice e)) (hi:P.info? e=some i) (hz:i.zero=some z) (hsize:i.size=1) (hby:i.bytes=bytes) (hby2:bytes<=64) (hzc:z.cells=#[z]) (hzn:∀k,z≠ .int .u32 k)
 {ops:Array Oper} {o:Oper} {a:Act} {w:World} {K:Act->World->Prop} {Q:Exit->Act->World->Prop} {E:Prop} (hgd:o.guard=none) (s x:Operand)
 (ho:o.op= .call { callee:= .builtin .append,args:=#[s,x],argTypes:=#[t,t] }) (B:Nat) (v:Value) (xs:List Value) (hs:a.eval s=v) (hown:zkc w e B 1 v xs.length xs) (y:Value) (hy1:y.oneCell'=true) (hyn:∀k,y≠ .int .u32 k) (g:Nat) (hxe:a.eval x= .slice (some ⟨g,0,none⟩) 1 1)
 (hc:w.cell? ⟨g,0,none⟩=some y) (hn:xs.length<=1000) (hbase:B<=w.heap.size)
 (h:∀v' w',zkc w' e B 1 v' (xs++ [y]).length (xs++ [y])->w.grownBy w' v.ownBlock->K (a.put o.dst v') w'):
 if Region.wanted o (yielded ops a.tmps)=true then Oper.wp P o a w K Q else E:=by
 refine step_app_R hgd s x t ho B e i z 1 bytes ht hi hz hsize hby (by rw[hzc];rfl) zD (λ d hd=>by rw[hzc]at hd;simp at hd;subst hd;exact hzn) v _ _ hs hown [y] rfl ⟨g,0,none⟩ hxe (λ j u hu=>by
  have hj:=(List.getElem?_eq_some_iff.1 hu).1;have :j=0:=by simp at hj;omega
  subst this;simp at hu;subst hu;exact hc) (λ u hu=>by simp at hu;subst hu;exact hy1) (λ c hc z=>by simp at hc;subst hc;exact hyn z) (by simp[maxLen];omega) (by have :(xs.length+1)*bytes<=1001*64:=zMM zO hby2;omega) hbase ?_
 intro v' w' k1 k2;refine h v' w' ?_ k2;rw[zLA];exact k1
end Go.Proofs.YtlpdkbmmbdfoiaaGreat
