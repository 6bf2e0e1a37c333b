/- Lemmas. -/
import Derived.Test.YtlpdkbmmbdfoiaaGreatECs1
import Derived.Deep.AppendSrc
set_option linter.unusedVariables false
set_option linter.unusedSimpArgs false
namespace Go.Proofs.YtlpdkbmmbdfoiaaGreat
open Go.RowKit
@[go_sem] theorem slen_lit0 (a : Option Addr) (n c : Nat) : slen (.slice a n c) = n := rfl
@[go_sem] theorem int_beq_self0 (y : Int) : (y == y) = true := by simp
@[go_sem] theorem int_bne_self0 (y : Int) : (y != y) = false := by simp
theorem make_E2 {P:Program} (t e:TypeId) (i:TypeInfo) (z:Value) (by':Nat) (h1:P.underlying t=some (.slice e)) (h2:P.info? e=some i) (h3:i.zero=some z) (h4:i.size=1) (h5:i.bytes=by') (hby:by'<=32) (hz:z.cells=#[z])
 (w:World) {ops:Array Oper} {rest:List Oper} {o:Oper} {a:Act} {Q:Exit->Act->World->Prop} (hg:o.guard=none) (l c:Operand) (hop:o.op=Op.makeSlice t l c)
 (n:Nat) (hl:a.eval l= .int .i64 n) (hc:a.eval c= .int .i64 n) (hn:n<=128)
 (hK:∀v w',zce w' e w.heap.size v (List.replicate n z)->Below w.heap.size w w'->wpList P ops Q rest (a.put o.dst v) w'):
 wpList P ops Q (o::rest) a w:=
 zjh w hg l c t hop w.heap.size e i z h1 h2 h3 h4 hz n hl hc (by rw[h5];exact zLT (Nat.mul_le_mul hby hn) (by decide)) (by simp[maxLen];omega) (zLR _) (fun v w' h6 h7 _=>hK v w' h6 h7)
theorem zce.bools {w:World} {e:TypeId} {B:Nat} {v:Value} {bs:List Bool} (h:zce w e B v (bs.map Value.bool)):zcm w v bs:=
 ⟨h.sl,by rw[h.len],fun j hj=>h.cell j hj⟩
theorem zrn {l:List Bool} {k:Nat} (h:k<l.length):l.getD k false=l[k]:=by
 rw[zGD,zGE h];rfl
theorem zge {x:Int} (h1:0<=x) (h2:x<=1900):IntKind.i64.wrap x=x:=by
 unfold IntKind.wrap
 simp[IntKind.signed,IntKind.bits]
 omega
end Go.Proofs.YtlpdkbmmbdfoiaaGreat
namespace Go.Proofs.YtlpdkbmmbdfoiaaGreat
inductive Clo (n:Nat) (S:Nat->Prop) (L:Nat->Nat->Prop):Nat->Prop
 | base {i:Nat}:i<n->S i->Clo n S L i
 | step {i j:Nat}:Clo n S L i->j<n->L i j->Clo n S L j
theorem Clo.lt {n:Nat} {S:Nat->Prop} {L:Nat->Nat->Prop} {i:Nat} (h:Clo n S L i):i<n:=by cases h<;>assumption
def zwt (l:List Bool):Nat:=(l.filter (fun b=> !b)).length
theorem zgs :∀ {l:List Bool} {k:Nat},l[k]? =some false->zwt (l.set k true)+1=zwt l
 | [],k,h=>by simp at h
 | b::l,0,h=>by
   simp at h
   subst h
   simp[zwt]
 | b::l,k+1,h=>by
   have ih:=zgs (l:=l) (k:=k) (by simpa using h)
   cases b
   ·simp only[List.set_cons_succ]
    unfold zwt at ih |-
    simp only[List.filter_cons]
    simp
    omega
   ·simp only[List.set_cons_succ]
    unfold zwt at ih |-
    simp only[List.filter_cons]
    simp
    omega
structure GInv (n:Nat) (S:Nat->Prop) (L:Nat->Nat->Prop) (bs:List Bool) (q:List Nat):Prop where
 len:bs.length=n
 sound:∀j,j<n->bs.getD j false=true->Clo n S L j
 base:∀j,j<n->S j->bs.getD j false=true
 done:∀i,i<n->bs.getD i false=true->i∉q->∀j,j<n->L i j->bs.getD j false=true
 inq:∀i,i∈q->i<n/\bs.getD i false=true
structure zxt (n:Nat) (S:Nat->Prop) (L:Nat->Nat->Prop) (bs:List Bool) (h:Nat) (q:List Nat) (k:Nat):Prop where
 len:bs.length=n
 sound:∀j,j<n->bs.getD j false=true->Clo n S L j
 base:∀j,j<n->S j->bs.getD j false=true
 done:∀i,i<n->bs.getD i false=true->i≠h->i∉q->∀j,j<n->L i j->bs.getD j false=true
 inq:∀i,i∈q->i<n/\bs.getD i false=true
 hin:h<n/\bs.getD h false=true
 doneh:∀j,j<n->j<k->L h j->bs.getD j false=true
section
variable {n:Nat} {S:Nat->Prop} {L:Nat->Nat->Prop} {bs:List Bool} {h k:Nat} {q:List Nat}
theorem GInv.start (hl:bs.length=n) (hb:∀j,j<n->(bs.getD j false=true↔S j)) (hq:∀i,i<n->bs.getD i false=true->i∈q) (hin:∀i,i∈q->i<n/\bs.getD i false=true):GInv n S L bs q:=
 ⟨hl,fun j hj h=>Clo.base hj ((hb j hj).1 h),fun j hj h=>(hb j hj).2 h,fun i hi h hnq=>absurd (hq i hi h) hnq,hin⟩
theorem GInv.all (g:GInv n S L bs []):∀j,j<n->(bs.getD j false=true↔Clo n S L j):=by
 intro j hj
 refine⟨g.sound j hj,fun hc=> ?_⟩
 induction hc with
 | base hi hs=>exact g.base _ hi hs
 | step hc hj2 hl ih=>exact g.done _ hc.lt (ih hc.lt) (by simp) _ hj2 hl
theorem GInv.head (g:GInv n S L bs (h::q)):zxt n S L bs h q 0:=
 ⟨g.len,g.sound,g.base,fun i hi hb hne hnq=>g.done i hi hb (by simp;exact⟨hne,hnq⟩),fun i hi=>g.inq i (by simp[hi]),g.inq h (by simp),fun j _ hj=>by omega⟩
theorem zxt.finish (g:zxt n S L bs h q n):GInv n S L bs q:=
 ⟨g.len,g.sound,g.base,fun i hi hb hnq j hj hl=>by
  by_cases e:i=h
  ·subst e;exact g.doneh j hj hj hl
  ·exact g.done i hi hb e hnq j hj hl,g.inq⟩
theorem zxt.skip (g:zxt n S L bs h q k) (hk:bs.getD k false=true\/¬L h k):zxt n S L bs h q (k+1):=
 ⟨g.len,g.sound,g.base,g.done,g.inq,g.hin,fun j hj hjk hl=>by
  by_cases e:j=k
  ·subst e
   rcases hk with h1 | h1
   ·exact h1
   ·exact absurd hl h1
  ·exact g.doneh j hj (by omega) hl⟩
theorem zfs (l:List Bool) (k j:Nat) (hk:k<l.length):(l.set k true).getD j false=if j=k then true else l.getD j false:=by
 by_cases e:j=k
 ·subst e;simp[List.getD,hk]
 ·rw[if_neg e]
  simp only[List.getD]
  rw[List.getElem?_set_ne (fun e'=>e e'.symm)]
theorem zxt.push (g:zxt n S L bs h q k) (hk:k<n) (hl:L h k):zxt n S L (bs.set k true) h (q++ [k]) (k+1):=by
 have hkl:k<bs.length:=by rw[g.len];exact hk
 have up:∀j,bs.getD j false=true->(bs.set k true).getD j false=true:=fun j hj=>by rw[zfs _ _ _ hkl];split<;>first | rfl | exact hj
 refine⟨by rw[List.length_set];exact g.len,fun j hj hb=> ?_,fun j hj hs=>up j (g.base j hj hs),fun i hi hb hne hnq j hj hlj=> ?_,fun i hi=> ?_,⟨g.hin.1,up _ g.hin.2⟩,fun j hj hjk hlj=> ?_⟩
 ·rw[zfs _ _ _ hkl]at hb
  by_cases e:j=k
  ·subst e;exact Clo.step (g.sound h g.hin.1 g.hin.2) hj hl
  ·rw[if_neg e]at hb;exact g.sound j hj hb
 ·have hik:i≠k:=fun e=>hnq (by rw[e];simp)
  rw[zfs _ _ _ hkl,if_neg hik]at hb
  exact up j (g.done i hi hb hne (fun e=>hnq (by simp[e])) j hj hlj)
 ·rcases List.mem_append.1 hi with h1 | h1
  ·exact⟨(g.inq i h1).1,up i (g.inq i h1).2⟩
  ·simp at h1
   subst h1
   exact⟨hk,by rw[zfs _ _ _ hkl,if_pos rfl]⟩
 ·rw[zfs _ _ _ hkl]
  by_cases e:j=k
  ·rw[if_pos e]
  ·rw[if_neg e];exact g.doneh j hj (by omega) hlj
end
end Go.Proofs.YtlpdkbmmbdfoiaaGreat
namespace Go.Proofs.YtlpdkbmmbdfoiaaGreat
set_option maxHeartbeats 1600000
open Go.RowKit
def rq (c:RC) (i j:Nat):Rat:=(zaq c i).getD j 0
theorem RF.above_dec {x:RF} (h:x.ok) (h0:¬x.q<0):(!x.neg&& !decide (x.n=0))=decide (0<x.q):=by
 by_cases hz:x.q.num=0
 ·rw[RF.above_zero h hz,Rat.num_eq_zero.1 hz]
  exact(decide_eq_false (by decide)).symm
 ·rw[RF.above_pos h h0 hz]
  refine(decide_eq_true ?_).symm
  have :x.q≠0:=fun e=>hz (by rw[e];rfl)
  grind
theorem zcw {c:RC} (hv:zzp c) {i j:Nat} (hi:i<c.rates.length) (hj:j<c.rates.length):∃hj2:j<c.rates[i].length,rq c i j=(c.rates[i][j]).q/\(c.rates[i][j]).ok/\¬ (c.rates[i][j]).q<0:=by
 obtain⟨h2,h3,h4,h5⟩:=hv.row (i:=i) (by have:=hv.2.2.1;have:=hv.2.2.2.1;omega)
 have hj2:j<c.rates[i].length:=by have:=hv.2.2.1;have:=hv.2.2.2.1;omega
 refine⟨hj2,?_,h4.ok _ (zGM hj2),(h4.1 _ (zGM hj2)).2.1⟩
 unfold rq
 rw[h5,zGD,zGE (by rw[zgq];exact hj2),Option.getD_some,zqt _ _ hj2]
set_option maxRecDepth 100000 in
theorem reach1_any (b:Nat) (c:RC) (i j:Nat) (w:World) (vr vs vl:Value) (hC:C3 w b vr vs vl) (hr:zlw w vr c.rates) (hv:zzp c) (hi:i<c.rates.length) (hj:j<c.rates.length):
 Calls Tryz.prog 172 #[.int .i64 (i:Nat), .int .i64 (j:Nat), .pointer (some ⟨b,0,none⟩)] w (fun e w'=>e= .returned (.bool (decide (0<rq c i j)))/\Below w.heap.size w w'):=by
 obtain⟨hj2,e1,e2,e3⟩:=zcw hv hi hj
 have HP:Hid ((!(c.rates[i][j]).neg&& !decide ((c.rates[i][j]).n=0))=decide (0<rq c i j)):=zH (by rw[e1];exact RF.above_dec e2 e3)
 obtain⟨P,hP⟩:∃P,decide (0<rq c i j)=P:=⟨_,rfl⟩
 rw[hP]at HP |-
 clear hP e1 e2 e3
 obtain⟨ri,hci,hri⟩:=hr.at' i hi
 have sr:=hr.sl
 have lr:=hr.len
 have sri:=hri.sl
 have lri:=hri.len
 obtain⟨ra,rn,rk,rfl,_⟩:=id hr.sl
 obtain⟨rai,rni,rki,rfl,_⟩:=id hri.sl
 obtain⟨ea,eb,g1,g2,g3,g4,g5⟩:=hri.at' j hj2
 obtain⟨x,hxe⟩:∃x,(c.rates[i])[j]=x:=⟨_,rfl⟩
 rw[hxe]at g1 g4 g5 HP
 obtain⟨ea1,ea2,ea3,rfl,_⟩:=g4.slen.1
 obtain⟨eb1,eb2,eb3,rfl,_⟩:=g5.slen.1
 have HXN:Hid (zdc w (.agg #[.bool x.neg, .slice ea1 ea2 ea3, .slice eb1 eb2 eb3]) x.neg x.n x.d):=zH ⟨_,_,rfl,g4,g5⟩
 obtain⟨_,c0,c1,c2,_,_,_⟩:=hC
 have i1:(0:Int)<=(i:Int):=by omega
 have i2:(i:Int)<(rn:Nat):=by have :rn=c.rates.length:=lr;omega
 have j1:(0:Int)<=(j:Int):=by omega
 have j2:(j:Int)<(rni:Nat):=by have :rni=c.rates[i].length:=lri;omega
 clear g4 g5 hxe hri hr lr lri
 go_enter Tryz.func172,Tryz.ntmps172
 go_wp2_with (go_at_call 145;(with_reducible refine(zer _ _ _ _ _ HXN.out).mono ?_);rw[HP.out];rintro e9 w9 ⟨rfl,hb9⟩)
 go_ret
 exact⟨rfl,hb9⟩
set_option maxRecDepth 100000 in
theorem fatal1_any (b:Nat) (c:RC) (j i:Nat) (w:World) (vr vs vl:Value) (hC:C3 w b vr vs vl) (hr:zlw w vr c.rates) (hv:zzp c) (hj:j<c.rates.length) (hi:i<c.rates.length):
 Calls Tryz.prog 173 #[.int .i64 (j:Nat), .int .i64 (i:Nat), .pointer (some ⟨b,0,none⟩)] w (fun e w'=>e= .returned (.bool (decide (0<rq c i j)))/\Below w.heap.size w w'):=by
 obtain⟨hj2,e1,e2,e3⟩:=zcw hv hi hj
 have HP:Hid ((!(c.rates[i][j]).neg&& !decide ((c.rates[i][j]).n=0))=decide (0<rq c i j)):=zH (by rw[e1];exact RF.above_dec e2 e3)
 obtain⟨P,hP⟩:∃P,decide (0<rq c i j)=P:=⟨_,rfl⟩
 rw[hP]at HP |-
 clear hP e1 e2 e3
 obtain⟨ri,hci,hri⟩:=hr.at' i hi
 have sr:=hr.sl
 have lr:=hr.len
 have sri:=hri.sl
 have lri:=hri.len
 obtain⟨ra,rn,rk,rfl,_⟩:=id hr.sl
 obtain⟨rai,rni,rki,rfl,_⟩:=id hri.sl
 obtain⟨ea,eb,g1,g2,g3,g4,g5⟩:=hri.at' j hj2
 obtain⟨x,hxe⟩:∃x,(c.rates[i])[j]=x:=⟨_,rfl⟩
 rw[hxe]at g1 g4 g5 HP
 obtain⟨ea1,ea2,ea3,rfl,_⟩:=g4.slen.1
 obtain⟨eb1,eb2,eb3,rfl,_⟩:=g5.slen.1
 have HXN:Hid (zdc w (.agg #[.bool x.neg, .slice ea1 ea2 ea3, .slice eb1 eb2 eb3]) x.neg x.n x.d):=zH ⟨_,_,rfl,g4,g5⟩
 obtain⟨_,c0,c1,c2,_,_,_⟩:=hC
 have i1:(0:Int)<=(i:Int):=by omega
 have i2:(i:Int)<(rn:Nat):=by have :rn=c.rates.length:=lr;omega
 have j1:(0:Int)<=(j:Int):=by omega
 have j2:(j:Int)<(rni:Nat):=by have :rni=c.rates[i].length:=lri;omega
 clear g4 g5 hxe hri hr lr lri
 go_enter Tryz.func173,Tryz.ntmps173
 go_wp2_with (go_at_call 145;(with_reducible refine(zer _ _ _ _ _ HXN.out).mono ?_);rw[HP.out];rintro e9 w9 ⟨rfl,hb9⟩)
 go_ret
 exact⟨rfl,hb9⟩
structure QV (w:World) (e:TypeId) (B:Nat) (u:Value) (l:List Int):Prop where
 form:∃ao cap,u= .slice ao l.length cap/\l.length<=cap/\cap<=maxLen/\(ao=none->cap=0)/\
  (0<cap->∃g off cur,ao=some ⟨g,off,none⟩/\B<=g/\w.heap[g]? =some (.cells cur e (0,0))/\off+cap<=cur.size/\∀ (j:Nat) (h:j<l.length),cur[off+j]? =some (.int .i64 l[j]))
section
variable {w w':World} {e:TypeId} {B:Nat} {u:Value} {l:List Int}
theorem QV.nil (w:World) (e:TypeId) (B:Nat):QV w e B (.slice none 0 0) []:=⟨none,0,rfl,zLR _,zZL _,fun _=>rfl,fun h=>by omega⟩
theorem QV.sl (h:QV w e B u l):zgc u:=by
 obtain⟨ao,cap,rfl,h1,h2,h3,_⟩:=h.form
 exact⟨ao,_,cap,rfl,h1,h2,h3⟩
theorem QV.len (h:QV w e B u l):slen u=l.length:=by
 obtain⟨ao,cap,rfl,_⟩:=h.form
 rfl
theorem QV.cell (h:QV w e B u l) (j:Nat) (hj:j<l.length):w.cell? (ptr u j)=some (.int .i64 l[j]):=by
 obtain⟨ao,cap,rfl,h1,h2,h3,h4⟩:=h.form
 obtain⟨g,off,cur,rfl,_,hg,hs,hc⟩:=h4 (by omega)
 have:=hc j hj
 simp only[ptr,base,Addr.add_lit]
 simp[World.cell?,hg,this]
theorem QV.keep (h:QV w e B u l) (hk:∀ (g:Nat) (cur:Array Value),w.heap[g]? =some (.cells cur e (0,0))->w'.heap[g]? =w.heap[g]?):QV w' e B u l:=by
 obtain⟨ao,cap,rfl,h1,h2,h3,h4⟩:=h.form
 refine⟨ao,cap,rfl,h1,h2,h3,fun hc=> ?_⟩
 obtain⟨g,off,cur,rfl,hB,hg,hs,hcc⟩:=h4 hc
 exact⟨g,off,cur,rfl,hB,by rw[hk g cur hg];exact hg,hs,hcc⟩
theorem QV.below (h:QV w e B u l) (hb:Below w.heap.size w w'):QV w' e B u l:=
 h.keep fun g cur hg=>(zze hb).block g (Array.getElem?_eq_some_iff.1 hg).1 (by simp)
theorem QV.over (h:QV w e B u l) {p:Addr} {t:TypeId} {cs:Array Value} {fz:Nat×Nat} (hp:w.heap[p.block]? =some (.cells cs t fz)) (ht:t≠e) (x:Value):QV (w.setCell p x) e B u l:=
 h.keep fun g cur hg=>Below.heap_setCell _ _ _ _ (fun e'=>by rw[e',hp]at hg;injection hg with hg;injection hg with _ hg _;exact ht hg)
theorem QV.pop {x:Int} (h:QV w e B u (x::l)):QV w e B (cut 1 u 1 (slen u)) l:=by
 obtain⟨ao,cap,rfl,h1,h2,h3,h4⟩:=h.form
 rw[List.length_cons]at h1
 obtain⟨g,off,cur,rfl,hB,hg,hs,hc⟩:=h4 (by omega)
 refine⟨if cap=1 then some ⟨g,off,none⟩else some ⟨g,off+1,none⟩,cap-1,?_,by omega,by omega,(fun e'=>by split at e'<;>cases e'),fun hc2=>⟨g,off+1,cur,by rw[if_neg (by omega)],hB,hg,by omega,fun j hj=> ?_⟩⟩
 ·simp only[cut,slen,List.length_cons,Option.map_some,Addr.add_lit,Nat.one_mul]
  rw[show l.length+1-1=l.length by omega]
 ·have:=hc (j+1) (by rw[List.length_cons];omega)
  rw[show off+1+j=off+(j+1)by omega,this]
  rfl
theorem run_append_Q {P:Program} (w:World) (B:Nat) (t ty e:TypeId) (i:TypeInfo) (ht:P.underlying t=some (.slice e)) (hi:P.info? e=some i) (hz:i.zero=some (.int .i64 0))
 (hsize:i.size=1) (hby:i.bytes=8) (v:Value) (l:List Int) (hown:QV w e B v l) (a:Addr) (c:Nat) (y:Int) (hy:w.cell? a=some (.int .i64 y)) (hn:l.length<=1000) (hbase:B<=w.heap.size):
 ∃v' w',(Builtin.append_ #[t,t] ty #[v, .slice (some a) 1 c]).run P w= .ok v' w'/\QV w' e B v' (l++ [y])/\∃r,w.grownBy w' r/\∀g,r=some g->B<=g/\∃cur,w.heap[g]? =some (.cells cur e (0,0)):=by
 obtain⟨ao,cap,rfl,h1,h2,h3,h4⟩:=hown.form
 have hs:Src P i.size t (.slice (some a) 1 c) 1 [.int .i64 y] w:=by
  rw[hsize]
  exact Src.ofSlice w ht a 1 c [.int .i64 y] rfl (fun j u hu=>by
   have hj:j=0:=by have:=(List.getElem?_eq_some_iff.1 hu).1;simp at this;omega
   subst hj
   simp at hu
   subst hu
   simpa [Addr.add]using hy) (fun u hu=>by simp at hu;subst hu;rfl)
 by_cases hroom:l.length<cap
 ·obtain⟨g,off,cur,rfl,hB,hg,hsz,hc⟩:=h4 (by omega)
  have hi1:off+l.length<cur.size:=by omega
  have hr:=run_append_room_src (P:=P) w t t ty e i ht hi g off l.length cap (.slice (some a) 1 c) 1 [.int .i64 y] hs (by omega)
   (fun j hj=>by
    have hj0:j=0:=by simp at hj;omega
    subst hj0
    rw[hsize,Nat.mul_one,Nat.add_zero]
    simp[World.cell?,hg,hi1])
   (fun j hj=>by
    rw[hsize,Nat.mul_one]
    simp[World.frozen?,hg])
  rw[hsize,Nat.mul_one]at hr
  have hst:w.setCells g (off+l.length) [.int .i64 y]=w.setCell ⟨g,off+l.length,none⟩ (.int .i64 y):=rfl
  rw[hst]at hr
  have hsame:=heap_setCell_same w g (off+l.length) cur e (.int .i64 y) hg
  refine⟨_,_,hr,⟨some ⟨g,off,none⟩,cap,by rw[List.length_append];rfl,by rw[List.length_append];simp;omega,h2,(fun e'=>by cases e'),fun _=>⟨g,off,_,rfl,hB,hsame,by rw[Array.size_setIfInBounds];exact hsz,fun j hj=> ?_⟩⟩,some g,?_,fun g' e'=> ?_⟩
  ·rw[List.length_append]at hj
   simp at hj
   by_cases hjl:j=l.length
   ·subst hjl
    rw[Array.getElem?_setIfInBounds_self_of_lt hi1]
    simp
   ·rw[Array.getElem?_setIfInBounds_ne (by omega),hc j (by omega),List.getElem_append_left (by omega)]
  ·exact⟨rfl,rfl,rfl,by simp[World.setCell],fun k hk hne=>Below.heap_setCell _ _ _ _ (fun e'=>hne (by rw[e']))⟩
  ·injection e' with e'
   subst e'
   exact⟨hB,cur,hg⟩
 ·obtain rfl:cap=l.length:=by omega
  have hold:(Builtin.firstCells i.size l.length (.slice ao l.length l.length)).run P w.drew= .ok (l.map (Value.int .i64)).toArray w.drew:=by
   rw[hsize]
   by_cases h0:0<l.length
   ·obtain⟨g,off,cur,rfl,hB,hg,hsz,hc⟩:=h4 h0
    refine run_firstCells_some w.drew 1 l.length ⟨g,off,none⟩ l.length l.length (l.map (Value.int .i64)) (by simp) (fun j u hu=> ?_)
    obtain⟨hj,rfl⟩:=List.getElem?_eq_some_iff.1 hu
    rw[List.length_map]at hj
    have:=hc j hj
    have h5:w.drew.heap[g]? =some (.cells cur e (0,0)):=hg
    rw[Addr.add_lit,List.getElem_map]
    simp[World.cell?,h5,this]
   ·have hl:l= []:=List.eq_nil_of_length_eq_zero (by omega)
    subst hl
    cases ao with
    | none=>exact run_firstCells_none w.drew 1 0 0 0
    | some b=>exact run_firstCells_some w.drew 1 0 b 0 0 [] rfl (fun j u hu=>by simp at hu)
  have hg:l.length<l.length+1:=by omega
  have hr:=run_append_grow_src (P:=P) w t t ty e i (.int .i64 0) ht hi hz ao l.length l.length (l.map (Value.int .i64)) hold (.slice (some a) 1 c) 1 [.int .i64 y] hs hg (by omega) (growslice_fits hg (by rw[hby];omega))
  have hge:=grownCap_ge w (l.length+1) l.length e
  have hcm:=grownCap_le_maxLen w (l.length+1) l.length e (by simp[maxLen];omega)
  generalize grownCap w (l.length+1) l.length e=G at *
  have e1:(l.map (Value.int .i64)++ [Value.int .i64 y])=(l++ [y]).map (Value.int .i64):=by simp
  rw[e1]at hr
  have hlen:(l++ [y]).length=l.length+1:=by simp
  refine⟨_,_,hr,⟨some ⟨w.heap.size,0,none⟩,G,by rw[hlen],by omega,hcm,(fun e'=>by cases e'),fun _=>⟨w.heap.size,0,_,rfl,hbase,heap_alloc_new w.drew _,?_,fun j hj=> ?_⟩⟩,none,?_,fun g' e'=>by cases e'⟩
  ·rw[Array.size_append,List.size_toArray,List.length_map,hlen,size_zeroCells]
   simp[Value.cells];omega
  ·rw[Nat.zero_add,Array.getElem?_append_left (by simp;omega),List.getElem?_toArray,List.getElem?_map,zGE hj]
   rfl
  ·exact zze ((zja (B:=w.heap.size) w).alloc (zLR _) _)
theorem append1_q {P:Program} (t e:TypeId) (i:TypeInfo) (ht:P.underlying t=some (.slice e)) (hi:P.info? e=some i) (hz:i.zero=some (.int .i64 0)) (hsize:i.size=1) (hby:i.bytes=8)
 (w0:World) {ops:Array Oper} {rest:List Oper} {o:Oper} {a:Act} {Q:Exit->Act->World->Prop} (hgd:o.guard=none) (s x:Operand)
 (ho:o.op= .call { callee:= .builtin .append,args:=#[s,x],argTypes:=#[t,t] }) (B:Nat) (e':TypeId)
 (v:Value) (l:List Int) (hs:a.eval s=v) (hown:QV w0 e B v l) (y:Int) (hxe:a.eval x= .slice (some ⟨w0.heap.size,0,none⟩) 1 1) (hn:l.length<=1000) (hbase:B<=w0.heap.size)
 (h:∀v' w',QV w' e B v' (l++ [y])->Below B w0 w'->(∀ (tB:TypeId) (B1:Nat) (v1:Value) (es:List Value),tB≠e->zce w0 tB B1 v1 es->zce w' tB B1 v1 es)->zgc v'->wpList P ops Q rest (a.put o.dst v') w'):
 wpList P ops Q (o::rest) a (w0.alloc (.cells #[.int .i64 y] e')):=by
 refine wpList_plain hgd fun K hK=> ?_
 have hba:=zca w0 (.cells #[.int .i64 y] e')
 obtain⟨v',w',hr,h2,r,h3,h4⟩:=run_append_Q (P:=P) (w0.alloc (.cells #[.int .i64 y] e')) B t o.type e i ht hi hz hsize hby v l (hown.below hba) ⟨w0.heap.size,0,none⟩ 1 y (by simp) hn (zLT hbase hba.size)
 unfold Oper.wp execOp
 simp only[ho,resolve,invoke,builtin,Sem.run_bind,Sem.run_pure,Result.andThen_ok,List.map_toArray,List.map_cons,List.map_nil,hs,hxe,hr]
 refine hK _ _ (h v' w' h2 ((hba.mono hbase).trans (zna h3 (zLT hbase hba.size) (fun k hk=>(h4 k hk).1))) (fun tB B1 v1 es hne ho=> ?_) h2.sl)
 have ho2:=ho.below hba
 refine World.ownsRow.kept ho2 h3 ?_
 cases hv1:v1.ownBlock with
 | none=>exact Or.inl rfl
 | some g=>
   refine Or.inr (fun e2=> ?_)
   obtain⟨_,cur,hc⟩:=h4 g e2.symm
   obtain⟨c,fz,hk⟩:=Lib.ownsRow_kind ho2 g hv1
   rw[hk]at hc
   injection hc with hc
   injection hc with _ hc _
   exact hne hc
end
end Go.Proofs.YtlpdkbmmbdfoiaaGreat
