/- Lemmas. -/
import Derived.Test.YtkpedaflofejnaaGreatProg
import Derived.WalkSpells
import Derived.WalkLawsBesides
import Derived.BigQuiet
import Derived.Lib.Hide
set_option linter.unusedVariables false
set_option linter.unusedSimpArgs false
namespace Go.Proofs.YtkpedaflofejnaaGreat
def zag :Nat->Nat->List (List Nat)
 | 0,n=> [[n]]
 | r+1,n=>(List.range (n+1)).flatMap fun x=>(zag r (n-x)).map (x:: ·)
def zue (P n m:Nat):List (List Nat):=(List.range (m+1)).flatMap fun z=>(zag (P-1) (n-z)).map (z:: ·)
def zbb :List Nat->Nat->List (List Nat)
 | [],_=> [[]]
 | p::ps,z=>(List.range (p+1)).flatMap fun x=>if x=0 then(if z=0 then []else(zbb ps (z-1)).map (0:: ·))else(zbb ps z).map (x:: ·)
def ztf (v:List Nat):Nat:=(v.filter (fun x=>x==0)).length
theorem zih (x:Nat) (v:List Nat):ztf (x::v)=(if x=0 then 1 else 0)+ztf v:=by
 unfold ztf;by_cases h:x=0
 ·subst h;simp;omega
 ·have :(x==0)=false:=by simpa using h
  rw[List.filter_cons,this];simp[h]
theorem zerV_snoc (v:List Nat) (x:Nat):ztf (v++ [x])=ztf v+if x=0 then 1 else 0:=by
 unfold ztf;by_cases h:x=0
 ·subst h;simp
 ·have :(x==0)=false:=by simpa using h
  rw[List.filter_append,List.filter_cons,this];simp[h]
def vecF (ph:List Nat) (z:Nat) (v:List Nat):Prop:=v.length=ph.length/\(∀ (i:Nat) (h:i<v.length),v[i]<=ph.getD i 0)/\ztf v<=z
theorem zmd :∀ (ph:List Nat) (z:Nat) (v:List Nat),v∈zbb ph z↔vecF ph z v
 | [],z,v=>by
   unfold zbb vecF;constructor
   ·intro h;(obtain rfl:v= []:=by simpa using h);exact⟨rfl,fun i h=>absurd h (Nat.not_lt_zero i),Nat.zero_le _⟩
   ·rintro⟨h,_,_⟩;have :v= []:=List.length_eq_zero_iff.1 h;simp[this]
 | p::ps,z,v=>by
   unfold zbb;rw[List.mem_flatMap];constructor
   ·rintro⟨x,hx,hv⟩;(have hxp:x<=p:=by have:=List.mem_range.1 hx;omega);by_cases h0:x=0
    ·rw[if_pos h0]at hv;by_cases hz:z=0
     ·rw[if_pos hz]at hv;cases hv
     ·rw[if_neg hz]at hv;obtain⟨u,hu,rfl⟩:=List.mem_map.1 hv;obtain⟨h1,h2,h3⟩:=(zmd ps (z-1) u).1 hu;refine⟨by simp[h1],fun i hi=> ?_,by rw[zih,if_pos rfl];omega⟩
      cases i with
      | zero=>simp
      | succ i=>simpa using h2 i (by simpa using hi)
    ·rw[if_neg h0]at hv;obtain⟨u,hu,rfl⟩:=List.mem_map.1 hv;obtain⟨h1,h2,h3⟩:=(zmd ps z u).1 hu;refine⟨by simp[h1],fun i hi=> ?_,by rw[zih,if_neg h0];omega⟩
     cases i with
     | zero=>simpa using hxp
     | succ i=>simpa using h2 i (by simpa using hi)
   ·rintro⟨h1,h2,h3⟩
    cases v with
    | nil=>simp at h1
    | cons x u=>
      have hx:x<=p:=h2 0 (Nat.succ_pos _);(have hu1:u.length=ps.length:=by simpa using h1);(have hu2:∀ (i:Nat) (h:i<u.length),u[i]<=ps.getD i 0:=fun i h=>h2 (i+1) (Nat.succ_lt_succ h));refine⟨x,List.mem_range.2 (by omega),?_⟩;rw[zih]at h3;by_cases h0:x=0
      ·(rw[if_pos h0]at h3 |-);rw[if_neg (by omega)];subst h0;exact List.mem_map.2 ⟨u,(zmd ps (z-1) u).2 ⟨hu1,hu2,by omega⟩,rfl⟩
      ·(rw[if_neg h0]at h3 |-);exact List.mem_map.2 ⟨u,(zmd ps z u).2 ⟨hu1,hu2,by omega⟩,rfl⟩
theorem zgg :∀ (r n:Nat) (v:List Nat),v∈zag r n↔v.length=r+1/\v.sum=n
 | 0,n,v=>by
   unfold zag;constructor
   ·intro h;(obtain rfl:v= [n]:=by simpa using h);exact⟨rfl,by simp⟩
   ·rintro⟨h1,h2⟩
    cases v with
    | nil=>simp at h1
    | cons x u=>
      obtain rfl:u= []:=List.length_eq_zero_iff.1 (by simpa using h1);simp at h2;simp[h2]
 | r+1,n,v=>by
   unfold zag;rw[List.mem_flatMap];constructor
   ·rintro⟨x,hx,hv⟩;obtain⟨u,hu,rfl⟩:=List.mem_map.1 hv;obtain⟨h1,h2⟩:=(zgg r (n-x) u).1 hu;have:=List.mem_range.1 hx;exact⟨by simp[h1],by simp[h2];omega⟩
   ·rintro⟨h1,h2⟩
    cases v with
    | nil=>simp at h1
    | cons x u=>
      simp at h1 h2;exact⟨x,List.mem_range.2 (by omega),List.mem_map.2 ⟨u,(zgg r (n-x) u).2 ⟨h1,by omega⟩,rfl⟩⟩
theorem zik {P n m:Nat} (hP:1<=P) (hm:m<=n) {v:List Nat}:v∈zue P n m↔v.length=P+1/\v.sum=n/\v.headD 0<=m:=by
 unfold zue;rw[List.mem_flatMap];constructor
 ·rintro⟨x,hx,hv⟩;obtain⟨u,hu,rfl⟩:=List.mem_map.1 hv;obtain⟨h1,h2⟩:=(zgg (P-1) (n-x) u).1 hu;have:=List.mem_range.1 hx;exact⟨by simp[h1];omega,by simp[h2];omega,by simpa using (by omega:x<=m)⟩
 ·rintro⟨h1,h2,h3⟩
  cases v with
  | nil=>simp at h1
  | cons x u=>
    simp at h1 h2 h3;exact⟨x,List.mem_range.2 (by omega),List.mem_map.2 ⟨u,(zgg (P-1) (n-x) u).2 ⟨by omega,by omega⟩,rfl⟩⟩
theorem zbl {α β:Type} {l:List α} {f:α->List β} (hl:l.Nodup) (hf:∀x∈l,(f x).Nodup) (hd:∀x∈l,∀y∈l,x≠y->∀z∈f x,z∉f y):(l.flatMap f).Nodup:=by
 induction l with
 | nil=>simp
 | cons x l ih=>
   rw[List.flatMap_cons,List.nodup_append];have hx:=List.nodup_cons.1 hl;refine⟨hf x (by simp),ih hx.2 (fun y hy=>hf y (by simp[hy])) (fun y hy z hz=>hd y (by simp[hy]) z (by simp[hz])),fun a ha b hb=> ?_⟩;obtain⟨y,hy,hby⟩:=List.mem_flatMap.1 hb;rintro rfl;exact hd x (by simp) y (by simp[hy]) (fun e=>hx.1 (e▸hy)) a ha hby
theorem zze {x:Nat} {l:List (List Nat)} (h:l.Nodup):(l.map (x:: ·)).Nodup:=by
 induction l with
 | nil=>simp
 | cons u l ih=>
   have hx:=List.nodup_cons.1 h;rw[List.map_cons,List.nodup_cons];exact⟨fun hm=>by obtain⟨y,hy,e⟩:=List.mem_map.1 hm;simp at e;exact hx.1 (e▸hy),ih hx.2⟩
theorem zzd {x:Nat} {l:List (List Nat)} {v:List Nat} (h:v∈l.map (x:: ·)):v.headD 0=x:=by
 obtain⟨u,_,rfl⟩:=List.mem_map.1 h;rfl
theorem zsn :∀r n,(zag r n).Nodup
 | 0,n=>by unfold zag;simp
 | r+1,n=>by
   unfold zag;(refine zbl List.nodup_range (fun x _=>zze (zsn r (n-x))) fun x _ y _ hne z hz hz2=>hne ?_);rw[<-zzd hz,<-zzd hz2]
theorem zkp (P n m:Nat):(zue P n m).Nodup:=by
 unfold zue;refine zbl List.nodup_range (fun x _=>zze (zsn _ _)) fun x _ y _ hne z hz hz2=>hne ?_
 rw[<-zzd hz,<-zzd hz2]
theorem zdj :∀ph z,(zbb ph z).Nodup
 | [],z=>by unfold zbb;simp
 | p::ps,z=>by
   unfold zbb;refine zbl List.nodup_range (fun x _=> ?_) fun x _ y _ hne v hv hv2=>hne ?_
   ·split
    ·split
     ·simp
     ·exact zze (zdj ps (z-1))
    ·exact zze (zdj ps z)
   ·have key:∀x,v∈(if x=0 then(if z=0 then []else(zbb ps (z-1)).map (0:: ·))else(zbb ps z).map (x:: ·))->v.headD 0=x:=fun x h=>by
     split at h
     ·next e=>
      split at h
      ·cases h
      ·rw[zzd h,e]
     ·exact zzd h
    rw[<-key x hv,<-key y hv2]
def snocF (l:List (List Nat)) (p z:Nat):List (List Nat):=l.flatMap fun v=>((List.range (p+1)).map fun x=>v++ [x]).filter fun u=>ztf u<=z
theorem zil :∀ (ps:List Nat) (p z:Nat),zbb (ps++ [p]) z=snocF (zbb ps z) p z
 | [],p,z=>by
   unfold snocF;rw[List.nil_append];unfold zbb zbb;simp only[List.flatMap_cons,List.flatMap_nil,List.append_nil]
   have key:∀l:List Nat,(l.flatMap fun x=>if x=0 then(if z=0 then []else [[0]])else [[x]])=(l.map fun x=>([]:List Nat)++ [x]).filter fun u=>decide (ztf u<=z):=fun l=>by
    induction l with
    | nil=>rfl
    | cons x l ih=>
      rw[List.flatMap_cons,ih,List.map_cons,List.filter_cons];by_cases h0:x=0
      ·subst h0;by_cases hz:z=0
       ·subst hz;simp[ztf]
       ·rw[if_pos rfl,if_neg hz,if_pos (by simp[ztf];omega)];rfl
      ·(have hz0:ztf ([]++ [x])=0:=by rw[zerV_snoc,if_neg h0];rfl);rw[if_neg h0,if_pos (by rw[hz0];simp)];rfl
   exact key _
 | q::ps,p,z=>by
   rw[List.cons_append];unfold zbb;unfold snocF;rw[List.flatMap_assoc]
   congr 1
   funext x
   have cons_snoc:∀ (z z':Nat) (l:List (List Nat)),(∀u:List Nat,(ztf (x::u)<=z↔ztf u<=z'))->((snocF l p z').map (x:: ·))=(l.map (x:: ·)).flatMap fun v=>((List.range (p+1)).map fun y=>v++ [y]).filter fun u=>decide (ztf u<=z):=fun z z' l hz=>by
    unfold snocF;rw[List.map_flatMap,List.flatMap_map]
    congr 1
    funext v
    rw[List.filter_map,List.filter_map,List.map_map]
    have e:(List.range (p+1)).filter ((fun u=>decide (ztf u<=z'))∘fun y=>v++ [y])=(List.range (p+1)).filter ((fun u=>decide (ztf u<=z))∘fun y=>x::v++ [y]):=by
     congr 1
     funext y
     (show decide _=decide _);exact decide_eq_decide.2 (hz (v++ [y])).symm
    rw[e];rfl
   by_cases h0:x=0
   ·subst h0;simp only[if_pos];by_cases hz:z=0
    ·simp only[if_pos hz,List.flatMap_nil]
    ·simp only[if_neg hz];rw[zil ps p (z-1)];exact cons_snoc z (z-1) _ fun u=>by rw[zih,if_pos rfl];omega
   ·simp only[if_neg h0];rw[zil ps p z];exact cons_snoc z z _ fun u=>by rw[zih,if_neg h0];omega
abbrev Mv :=List Nat×Rat
def znb (L:List (List Nat)):List Mv->Nat->Rat
 | [],_=>0
 | m::ms,j=>(if L.idxOf m.1=j then m.2 else 0)+znb L ms j
section
variable {L:List (List Nat)} {j:Nat}
theorem zlc :∀ (a b:List Mv),znb L (a++b) j=znb L a j+znb L b j
 | [],b=>by show znb L b j=0+znb L b j;rw[Rat.zero_add]
 | m::a,b=>by
   (show _+znb L (a++b) j=_+znb L a j+znb L b j);rw[zlc a b,Rat.add_assoc]
theorem zgn (a:List Mv) (m:Mv):znb L (a++ [m]) j=znb L a j+if L.idxOf m.1=j then m.2 else 0:=by
 rw[zlc];show _+(_+0)=_
 rw[Rat.add_zero]
theorem zgf (a:List Mv) {m:Mv} (h:m.2=0):znb L (a++ [m]) j=znb L a j:=by
 rw[zgn,h];split<;>rw[Rat.add_zero]
theorem rowM_comm (a b:List Mv):znb L (a++b) j=znb L (b++a) j:=by rw[zlc,zlc,Rat.add_comm]
theorem zsh {α:Type} {f g:α->List Mv}:∀ (l:List α),(∀x∈l,znb L (f x) j=znb L (g x) j)->znb L (l.flatMap f) j=znb L (l.flatMap g) j
 | [],_=>rfl
 | x::l,h=>by
   rw[List.flatMap_cons,List.flatMap_cons,zlc,zlc,h x (by simp),zsh l fun y hy=>h y (by simp[hy])]
end
def zbf (v:List Nat) (i:Nat):List Nat:=v.set i (v.getD i 0+1)
def zyb (v:List Nat) (i:Nat):List Nat:=v.set i (v.getD i 0-1)
structure LwF where
 n:Nat
 S:Nat->Rat
 E:Nat->Rat
 R:Nat->Nat->Rat
def ziq (l:LwF) (v:List Nat) (p:Nat):List Mv:=
 (List.range l.n).map (fun q=>(zbf (zyb v (p+1)) (q+1),(v.getD (p+1) 0:Rat)*l.R p q))++ [(zbf (zyb v (p+1)) 0,(v.getD (p+1) 0:Rat)*l.E p)]
def repM (l:LwF) (rep:Nat->Rat) (v:List Nat) (p:Nat):List Mv:= [(zbf (zyb v 0) (p+1),rep (v.getD 0 0-1)*l.S p)]
def cntM (l:LwF) (rep:Nat->Rat) (v:List Nat):List Mv:=
 (List.range l.n).flatMap fun p=>(if 0<v.getD (p+1) 0 then ziq l v p else [])++if 0<v.getD 0 0 then repM l rep v p else []
def sevR (l:LwF) (v:List Nat) (p:Nat):List Mv:=
 ((List.range l.n).filter fun q=>q≠p).map (fun q=>(zbf (zyb v (p+1)) (q+1),(v.getD (p+1) 0:Rat)*l.R p q))++ [(zbf (zyb v (p+1)) 0,(v.getD (p+1) 0:Rat)*l.E p)]
def cntR (l:LwF) (rep:Nat->Rat) (v:List Nat):List Mv:=
 (List.range l.n).flatMap fun p=>(if 0<v.getD 0 0 then repM l rep v p else [])++if 0<v.getD (p+1) 0 then sevR l v p else []
theorem zrh {L:List (List Nat)} {j p:Nat} {f:Nat->Mv}:∀ (l:List Nat),(f p).2=0->znb L ((l.filter fun q=>q≠p).map f) j=znb L (l.map f) j
 | [],_=>rfl
 | x::l,h=>by
   have ih:=zrh (L:=L) (j:=j) l h;by_cases hx:x=p
   ·subst hx;rw[List.filter_cons,if_neg (by simp),ih,List.map_cons];(show znb L (l.map f) j=(if L.idxOf (f x).1=j then(f x).2 else 0)+znb L (l.map f) j);rw[h];split<;>rw[Rat.zero_add]
   ·rw[List.filter_cons,if_pos (by simpa using hx),List.map_cons,List.map_cons];(show _+znb L ((l.filter fun q=>q≠p).map f) j=_+znb L (l.map f) j);rw[ih]
theorem cnt_same {L:List (List Nat)} {j:Nat} {l:LwF} {rep:Nat->Rat} {v:List Nat} (hd:∀p,p<l.n->l.R p p=0):znb L (cntR l rep v) j=znb L (cntM l rep v) j:=by
 unfold cntR cntM;refine zsh _ fun p hp=> ?_
 rw[rowM_comm,zlc,zlc]
 congr 1
 split
 ·unfold sevR ziq;rw[zlc,zlc,zrh _ (by show(v.getD (p+1) 0:Rat)*l.R p p=0;rw[hd p (List.mem_range.1 hp),Rat.mul_zero])]
 ·rfl
def zbr (l:LwF) (v:List Nat) (i:Nat):List Mv:=
 (List.range l.n).map (fun q=>(v.set i (q+1),l.R (v.getD i 0-1) q))++ [(v.set i 0,l.E (v.getD i 0-1))]
def zhg (v:List Nat) (g:List Nat):List Nat:=g.foldl (fun v i=>v.set i 0) v
def zeh (v:List Nat):Nat:=v.idxOf 0
def zjj (ls:Nat->LwF) (rep:Nat->Rat) (gs:List (List Nat×Rat)) (v:List Nat):List Mv:=
 ((List.range v.length).flatMap fun i=>if 0<v.getD i 0 then zbr (ls i) v i else [])++
   (gs.filterMap fun g=>if zhg v g.1=v then none else some (zhg v g.1,g.2))++
   if ztf v=0 then []else(List.range (ls (zeh v)).n).map fun q=>(v.set (zeh v) (q+1),rep (ztf v-1)*(ls (zeh v)).S q)
end Go.Proofs.YtkpedaflofejnaaGreat
namespace Go.Proofs.YtkpedaflofejnaaGreat
open Go.Maps
def zij (v:List Nat):List UInt8:=v.map UInt8.ofNat
def zhb (v:List Nat):Prop:=∀x∈v,x<256
theorem zwq :∀ {u v:List Nat},zhb u->zhb v->zij u=zij v->u=v
 | [],[],_,_,_=>rfl
 | [],y::v,_,_,h=>by simp[zij]at h
 | x::u,[],_,_,h=>by simp[zij]at h
 | x::u,y::v,hu,hv,h=>by
   unfold zij at h;rw[List.map_cons,List.map_cons]at h;(injection h with h1 h2);(have e1:(UInt8.ofNat x).toNat=(UInt8.ofNat y).toNat:=by rw[h1]);have hx:=hu x (by simp);have hy:=hv y (by simp);rw[UInt8.toNat_ofNat',UInt8.toNat_ofNat',Nat.mod_eq_of_lt hx,Nat.mod_eq_of_lt hy]at e1;rw[e1,zwq (u:=u) (v:=v) (fun z hz=>hu z (by simp[hz])) (fun z hz=>hv z (by simp[hz])) h2]
structure Idx {H:Type} (D:DataW H) (L:List (List Nat)):Prop where
 map:IsMap D
 has:∀v,zhb v->has D (.string (zij v))=decide (v∈L)
 at':∀v,zhb v->v∈L->D.atKey (.string (zij v)) (.lit (.int .i64 0))= .lit (.int .i64 (L.idxOf v:Nat))
theorem Idx.nil {H:Type}:Idx (.map []:DataW H) []:=⟨isMap_empty,fun v _=>by simp[Maps.has],fun v _ h=>by simp at h⟩
theorem Idx.snoc {H:Type} {D:DataW H} {L:List (List Nat)} (h:Idx D L) {v:List Nat} (hv:zhb v) (hn:v∉L):Idx (D.put (.string (zij v)) (.lit (.int .i64 (L.length:Nat)))) (L++ [v]):=by
 have hk:WideAt.IsKeyLit (.string (zij v)):=by first | trivial | exact True.intro | decide | simp[WideAt.IsKeyLit]
 refine⟨h.map.put _ _,fun u hu=> ?_,fun u hu hm=> ?_⟩
 ·by_cases e:u=v
  ·subst e;rw[has_put_same h.map hk];simp
  ·rw[has_put_other (fun e2=>e (zwq hu hv (by injection e2))),h.has u hu];simp[e]
 ·by_cases e:u=v
  ·subst e;rw[atKey_put_same h.map hk,List.idxOf_append,if_neg hn];simp
  ·(have hm2:u∈L:=by simpa [e]using hm);rw[atKey_put_other (fun e2=>e (zwq hu hv (by injection e2))),h.at' u hu hm2,List.idxOf_append,if_pos hm2]
end Go.Proofs.YtkpedaflofejnaaGreat
namespace Go.Proofs.YtkpedaflofejnaaGreat
def val :List Nat->Nat
 | []=>0
 | x::l=>x+4294967296*val l
def Lm (l:List Nat):Prop:=∀x∈l,x<4294967296
def clen :List Nat->Nat
 | []=>0
 | x::l=>if clen l=0 then(if x=0 then 0 else 1)else clen l+1
theorem zkl (l:List Nat):clen l<=l.length:=by
 induction l with
 | nil=>simp[clen]
 | cons x l ih=>simp only[clen,List.length_cons];split<;>(try split)<;>omega
theorem clen_snoc (l:List Nat) (x:Nat):clen (l++ [x])=if x=0 then clen l else l.length+1:=by
 induction l with
 | nil=>simp[clen]
 | cons y l ih=>
   simp only[List.cons_append,clen,ih,List.length_cons];by_cases hx:x=0
   ·simp[hx]
   ·simp[hx]
theorem zce {α:Type} (l:List α) (k:Nat) (h:k<l.length):l.take (k+1)=l.take k++ [l[k]]:=by
 rw[List.take_succ_eq_append_getElem h]
theorem zbg (l:List Nat) (k:Nat) (h:k<l.length) (h0:l[k]=0):clen (l.take (k+1))=clen (l.take k):=by
 rw[zce l k h,clen_snoc,if_pos h0]
theorem znk (l:List Nat) (k:Nat) (h:k<l.length) (h0:l[k]≠0):clen (l.take (k+1))=k+1:=by
 rw[zce l k h,clen_snoc,if_neg h0,List.length_take];omega
def pw (k:Nat):Nat:=4294967296^k
theorem zxf :pw 0=1:=rfl
theorem zrb (k:Nat):pw (k+1)=4294967296*pw k:=by unfold pw;rw[Nat.pow_succ,Nat.mul_comm]
theorem pw_pos (k:Nat):0<pw k:=Nat.pow_pos (by decide)
theorem pw_add (j k:Nat):pw (j+k)=pw j*pw k:=by unfold pw;rw[Nat.pow_add]
theorem pw_le {j k:Nat} (h:j<=k):pw j<=pw k:=Nat.pow_le_pow_right (by decide) h
theorem zoc (a b:List Nat):val (a++b)=val a+pw a.length*val b:=by
 induction a with
 | nil=>simp[val,zxf]
 | cons x a ih=>
   simp only[List.cons_append,val,ih,List.length_cons,zrb];rw[Nat.mul_add,Nat.mul_assoc];omega
theorem zqf {l:List Nat} (h:Lm l):val l<pw l.length:=by
 induction l with
 | nil=>simp[val,zxf]
 | cons x l ih=>
   have h1:=ih (fun y hy=>h y (by simp[hy]));have h2:=h x (by simp);simp only[val,List.length_cons,zrb];omega
theorem zga (l:List Nat) (k:Nat) (h:k<l.length):val (l.take (k+1))=val (l.take k)+pw k*l[k]:=by
 rw[zce l k h,zoc,List.length_take,Nat.min_eq_left (by omega)];simp[val]
theorem zza (l:List Nat) (k:Nat) (h:l.length<=k):val (l.take k)=val l:=by rw[List.take_of_length_le h]
theorem zog (n:Nat):val (List.replicate n 0)=0:=by
 induction n with
 | zero=>rfl
 | succ n ih=>simp[List.replicate_succ,val,ih]
theorem zmg {l:List Nat}:val l=0↔clen l=0:=by
 induction l with
 | nil=>simp[val,clen]
 | cons x l ih=>
   simp only[val,clen];by_cases h:clen l=0
   ·rw[if_pos h];have:=ih.2 h;by_cases hx:x=0<;>simp[hx,this]
   ·rw[if_neg h];have :val l≠0:=fun e=>h (ih.1 e);omega
def zja (n:Nat):List Nat:=if h:n=0 then []else n%4294967296::zja (n/4294967296)
termination_by n
decreasing_by exact Nat.div_lt_self (by omega) (by decide)
theorem zgc :zja 0= []:=by rw[zja];simp
theorem zge {n:Nat} (h:n≠0):zja n=n%4294967296::zja (n/4294967296):=by rw[zja];simp[h]
theorem zfl (n:Nat):val (zja n)=n/\Lm (zja n)/\clen (zja n)=(zja n).length:=by
 induction n using Nat.strongRecOn with
 | _ n ih=>
   by_cases h:n=0
   ·subst h;rw[zgc];exact⟨rfl,fun x h=>by simp at h,rfl⟩
   ·rw[zge h];obtain⟨h1,h2,h3⟩:=ih (n/4294967296) (Nat.div_lt_self (by omega) (by decide));refine⟨by simp only[val,h1];omega,fun x hx=> ?_,?_⟩
    ·rcases List.mem_cons.1 hx with rfl | hx
     ·omega
     ·exact h2 x hx
    ·simp only[clen,List.length_cons];by_cases h0:clen (zja (n/4294967296))=0
     ·have hv:=zmg.2 h0;rw[h1]at hv;rw[if_pos h0,if_neg (by omega)];omega
     ·rw[if_neg h0];omega
theorem zfa (n:Nat):val (zja n)=n:=(zfl n).1
theorem zvb (n:Nat):Lm (zja n):=(zfl n).2.1
theorem clen_limbs (n:Nat):clen (zja n)=(zja n).length:=(zfl n).2.2
theorem zco {l:List Nat} (h:Lm l):zja (val l)=l.take (clen l):=by
 induction l with
 | nil=>simp[val,clen,zgc]
 | cons x l ih=>
   have h1:=ih (fun y hy=>h y (by simp[hy]));have h2:=h x (by simp);by_cases h0:clen l=0
   ·have hv:=zmg.2 h0;simp only[val,clen,if_pos h0,hv];by_cases hx:x=0
    ·simp[hx,zgc]
    ·rw[if_neg hx,zge (by omega),show(x+4294967296*0)/4294967296=0 from by omega,zgc,show(x+4294967296*0)%4294967296=x from by omega];simp
   ·(have hv:val l≠0:=fun e=>h0 (zmg.1 e));simp only[val,clen,if_neg h0];rw[zge (by omega),show(x+4294967296*val l)%4294967296=x from by omega,show(x+4294967296*val l)/4294967296=val l from by omega,h1];simp
def zda (n:Nat):Nat:=(zja n).length
theorem zkd :zda 0=0:=by simp[zda,zgc]
theorem nlen_pos {n:Nat} (h:n≠0):zda n=zda (n/4294967296)+1:=by simp[zda,zge h]
theorem zqa {n:Nat}:zda n=0↔n=0:=by
 constructor
 ·intro h;by_cases h0:n=0
  ·exact h0
  ·rw[nlen_pos h0]at h;omega
 ·rintro rfl;exact zkd
theorem zll {l:List Nat} (h:Lm l):clen l=zda (val l):=by
 unfold zda;rw[zco h,List.length_take];have:=zkl l;omega
theorem zcf (n:Nat):n<pw (zda n):=by
 have:=zqf (zvb n);rw[zfa]at this;exact this
theorem zcc {n k:Nat}:zda n<=k↔n<pw k:=by
 constructor
 ·intro h;exact Nat.lt_of_lt_of_le (zcf n) (pw_le h)
 ·induction k generalizing n with
  | zero=>intro h;simp[zxf]at h;subst h;simp[zkd]
  | succ k ih=>
    intro h;by_cases h0:n=0
    ·subst h0;simp[zkd]
    ·rw[nlen_pos h0];have:= @ih (n/4294967296) (by rw[zrb]at h;omega);omega
theorem zfb {m n:Nat} (h:m<=n):zda m<=zda n:=zcc.2 (Nat.lt_of_le_of_lt h (zcf n))
theorem zrq {n k:Nat} (h:k<zda n):pw k<=n:=Nat.le_of_not_lt fun h'=>by have:=zcc.2 h';omega
theorem zxh {m n:Nat} (h:zja m=zja n):m=n:=by rw[<-zfa m,<-zfa n,h]
theorem zzp {α:Type} (o:List α) (k:Nat) (z:α) (h:k<o.length):(o.set k z).take (k+1)=o.take k++ [z]:=by
 rw[zce _ k (by simpa using h),List.take_set_of_le (Nat.le_refl _)];simp
theorem zqb (o:List Nat) (k z:Nat) (h:k<o.length):val ((o.set k z).take (k+1))=val (o.take k)+pw k*z:=by
 rw[zzp o k z h,zoc,List.length_take,Nat.min_eq_left (by omega)];simp[val]
theorem zpk {o a b:List Nat} {k c x y:Nat} (hk:k<o.length) (ha:val (a.take (k+1))=val (a.take k)+pw k*x) (hb:val (b.take (k+1))=val (b.take k)+pw k*y)
 (hv:val (o.take k)+pw k*c=val (a.take k)+val (b.take k)):
 val ((o.set k ((c+x+y)%4294967296)).take (k+1))+pw (k+1)*((c+x+y)/4294967296)=val (a.take (k+1))+val (b.take (k+1)):=by
 rw[zqb o k _ hk,ha,hb,zrb];have h:(c+x+y)%4294967296+4294967296*((c+x+y)/4294967296)=c+x+y:=by omega
 generalize (c+x+y)%4294967296=z at *
 generalize (c+x+y)/4294967296=d at *
 grind
theorem zef {α:Type} (l:List α) (k:Nat) (h:l.length<=k):l.take (k+1)=l.take k:=by
 rw[List.take_of_length_le h,List.take_of_length_le (by omega)]
def zjl (m n:Nat):Int:=if m<n then -1 else if n<m then 1 else 0
theorem zdi {m n:Nat} (h:m<n):zjl m n= -1:=by simp[zjl,h]
theorem zmo {m n:Nat} (h:n<m):zjl m n=1:=by unfold zjl;rw[if_neg (by omega),if_pos h]
theorem cmpN_eq {m n:Nat} (h:m=n):zjl m n=0:=by subst h;unfold zjl;rw[if_neg (by omega),if_neg (by omega)]
theorem zqi {m n:Nat} (h:zda m<zda n):m<n:=Nat.lt_of_not_le fun h'=>by have:=zfb h';omega
theorem zjh (l:List Nat) (k:Nat) (h:k<l.length):val l=val (l.take k)+pw k*l[k]+pw (k+1)*val (l.drop (k+1)):=by
 have e:val l=val (l.take (k+1)++l.drop (k+1)):=by rw[List.take_append_drop]
 rw[e,zoc,List.length_take,Nat.min_eq_left (by omega),zga l k h]
theorem zwe {a b:List Nat} (ha:Lm a) (k:Nat) (h1:k<a.length) (h2:k<b.length) (hd:a.drop (k+1)=b.drop (k+1)) (h:a[k]<b[k]):val a<val b:=by
 rw[zjh a k h1,zjh b k h2,hd]
 have h3:val (a.take k)<pw k:=by
  have:=zqf (l:=a.take k) (fun x hx=>ha x (List.mem_of_mem_take hx));rwa[List.length_take,Nat.min_eq_left (by omega)]at this
 have h4:pw k*(a[k]+1)<=pw k*b[k]:=Nat.mul_le_mul_left _ h;rw[Nat.mul_add,Nat.mul_one]at h4;omega
theorem ztp {a b:List Nat} (k:Nat) (h1:k<a.length) (h2:k<b.length) (hd:a.drop (k+1)=b.drop (k+1)) (h:a[k]=b[k]):a.drop k=b.drop k:=by
 rw[List.drop_eq_getElem_cons h1,List.drop_eq_getElem_cons h2,hd,h]
theorem sub_step {o a b:List Nat} {k bo x y z bo':Nat} (hk:k<o.length) (ha:val (a.take (k+1))=val (a.take k)+pw k*x) (hb:val (b.take (k+1))=val (b.take k)+pw k*y)
 (hz:z+bo+y=x+4294967296*bo') (hv:val (o.take k)+val (b.take k)=val (a.take k)+pw k*bo):
 val ((o.set k z).take (k+1))+val (b.take (k+1))=val (a.take (k+1))+pw (k+1)*bo':=by
 rw[zqb o k _ hk,ha,hb,zrb];grind
theorem val_set (l:List Nat) (i z:Nat) (h:i<l.length):val (l.set i z)+pw i*l[i]=val l+pw i*z:=by
 induction l generalizing i with
 | nil=>simp at h
 | cons x l ih=>
   cases i with
   | zero=>simp[val,zxf];omega
   | succ i=>
     have:=ih i (by simpa using h);simp only[List.set_cons_succ,val,zrb,List.getElem_cons_succ];grind
theorem mul_step {o b:List Nat} {k j N R c x y z c':Nat} (hN:k+j<N) (hl:N<=o.length) (hb:val (b.take (j+1))=val (b.take j)+pw j*y)
 (hv:val (o.take N)+pw (k+j)*c=R+pw k*x*val (b.take j)) (hz:z+4294967296*c'=x*y+o[k+j]+c):
 val ((o.set (k+j) z).take N)+pw (k+(j+1))*c'=R+pw k*x*val (b.take (j+1)):=by
 have h1:=val_set (o.take N) (k+j) z (by simp;omega);rw[List.getElem_take]at h1;rw[List.take_set,hb,<-Nat.add_assoc,zrb];have e:=pw_add k j;generalize val ((o.take N).set (k+j) z)=V' at *
 generalize val (o.take N)=V at *
 generalize o[k+j]=q at *
 generalize pw (k+j)=p at *
 subst e;grind
theorem mul_end {o a b:List Nat} {k n N c x R:Nat} (hN:N<o.length) (ha:val (a.take (k+1))=val (a.take k)+pw k*x) (hn:val b=n) (hR:R=val (a.take k)*n)
 (hv:val (o.take N)+pw N*c=R+pw k*x*val (b.take b.length)):val ((o.set N c).take (N+1))=val (a.take (k+1))*n:=by
 rw[zqb o N c hN,hv,List.take_length,ha,hR,hn];grind
theorem zwn {x y q c:Nat} (hx:x<4294967296) (hy:y<4294967296) (hq:q<4294967296) (hc:c<4294967296):x*y+q+c<18446744073709551616/\x*y<=18446744065119617025:=by
 have h1:x*y<=4294967295*4294967295:=Nat.mul_le_mul (by omega) (by omega);omega
theorem zoi {x y:Nat} (hx:x<4294967296) (hy:y<4294967296):(0:Int)<=(x:Int)*y/\(x:Int)*y<=18446744065119617025:=by
 have h1:x*y<=4294967295*4294967295:=Nat.mul_le_mul (by omega) (by omega);have h2:((x*y:Nat):Int)<=18446744065119617025:=by omega
 rw[Int.natCast_mul]at h2;exact⟨Int.mul_nonneg (by omega) (by omega),h2⟩
theorem div_lt_32 {t:Nat} (h:t<18446744073709551616):t/4294967296<4294967296:=by omega
theorem mul_cast (c x y q:Nat):(c:Int)+((x:Int)*y+q)=((x*y+q+c:Nat):Int):=by
 rw[Int.natCast_add,Int.natCast_add,Int.natCast_mul];omega
end Go.Proofs.YtkpedaflofejnaaGreat
namespace Go.Proofs.YtkpedaflofejnaaGreat
def zI (p:Prop):Prop:=p
theorem zI.o {p:Prop} (h:zI p):p:=h
theorem zH {p:Prop} (h:p):zI p:=h
theorem zS {p q:Prop} (k:q) (h:zI q->p:=by (intro k;(try simp only[Act.put,List.setIfInBounds_toArray,List.set_cons_zero,List.set_cons_succ]);exact k.o)):p:=h k
theorem zO {p:Prop} (h:p:=by omega):p:=h
theorem zD {p:Prop} (h:p:=by decide):p:=h
theorem zZ {α:Sort _} {p:α->Prop} (h:∀z,p z:=by (intro z;simp)):∀z,p z:=h
theorem zIP {c:Prop} {h:Decidable c} (hc:c) {α:Sort _} {t e:α}:(ite c t e)=t:=if_pos hc
theorem zIN {c:Prop} {h:Decidable c} (hc:¬c) {α:Sort _} {t e:α}:(ite c t e)=e:=if_neg hc
theorem zAI {a b:Prop} (h:a) (k:b):a/\b:=And.intro h k
theorem zDT {p:Prop} [Decidable p] (h:p):decide p=true:=decide_eq_true h
theorem zDF {p:Prop} [Decidable p] (h:¬p):decide p=false:=decide_eq_false h
theorem zLS (n:Nat):n<=n+1:=Nat.le_succ n
theorem zSS (n:Nat):n<n+1:=Nat.lt_succ_self n
theorem zMZ {n m:Nat} (h:n≠0) (k:m≠0):n*m≠0:=Nat.mul_ne_zero h k
theorem zLO {n m:Nat} (h:n<m):n<=m:=Nat.le_of_lt h
theorem zOG (a b:Nat):a<b\/a>=b:=Nat.lt_or_ge a b
theorem zMM {p q m n:Nat} (h:p<=m) (k:q<=n):p*q<=m*n:=Nat.mul_le_mul h k
abbrev zTL:=@List.take_of_length_le
abbrev zGS:=@List.length_set
abbrev zCO:=@Go.World.cell?_setCell_other
abbrev zAL:=@List.getElem_append_left
abbrev zSF:=@List.getElem_set_self
abbrev zSN:=@List.getElem?_set_ne
abbrev zLA:=@List.length_append
abbrev zAS:=@Nat.add_sub_cancel_left
abbrev zBR:=@Go.RowKit.Below.refl
abbrev zTN:=@List.getElem_set_ne
abbrev zTK:=@List.length_take
abbrev zPZ:=@Nat.pos_of_ne_zero
abbrev zIR:=@Nat.lt_irrefl
abbrev zRR:=@Nat.lt_trans
abbrev zMP:=@List.length_map
abbrev zRP:=@List.length_replicate
abbrev zNZ:=@Nat.not_lt_zero
abbrev zML2:=@Nat.mod_lt
theorem zLR (n:Nat):n<=n:=Nat.le_refl n
theorem zLT {n m k:Nat} (h:n<=m) (h2:m<=k):n<=k:=Nat.le_trans h h2
theorem zZL (n:Nat):0<=n:=Nat.zero_le n
theorem zGE {α:Type _} {l:List α} {i:Nat} (h:i<l.length):l[i]? =some l[i]:=List.getElem?_eq_getElem h
theorem zGD {α:Type _} {l:List α} {i:Nat} {a:α}:l.getD i a=l[i]?.getD a:=List.getD_eq_getElem?_getD
theorem zGM {α:Type _} {l:List α} {n:Nat} (h:n<l.length):l[n]∈l:=List.getElem_mem h
theorem zLL {n m k:Nat} (h:n<=m) (h2:m<k):n<k:=Nat.lt_of_le_of_lt h h2
theorem zLM {n m k:Nat} (h:n<m) (h2:m<=k):n<k:=Nat.lt_of_lt_of_le h h2
theorem zMR {m n:Nat} (k:Nat) (h:m<=n):m*k<=n*k:=Nat.mul_le_mul_right k h
theorem zML {m n:Nat} (k:Nat) (h:m<=n):k*m<=k*n:=Nat.mul_le_mul_left k h
open Go.RowKit
def base :Value->Addr
 | .slice (some a) _ _=>a
 | _=>⟨0,0,none⟩
def ptr (v:Value) (k:Nat):Addr:=(base v).add k
theorem add_add (a:Addr) (j k:Nat):(a.add j).add k=a.add (j+k):=by
 unfold Addr.add;by_cases hj:j=0<;>by_cases hk:k=0<;>simp[hj,hk]
 omega
theorem ptr_add (v:Value) (j k:Nat):(ptr v j).add k=ptr v (j+k):=add_add _ _ _
theorem zma (v:Value) (k:Nat):(ptr v k).block=(base v).block:=by
 unfold ptr Addr.add;split<;>rfl
def slen :Value->Nat
 | .slice _ n _=>n
 | _=>0
def scap :Value->Nat
 | .slice _ _ c=>c
 | _=>0
def zlb (v:Value):Prop:=
 ∃a n cap,v= .slice a n cap/\n<=cap/\cap<=maxLen/\(a=none->cap=0)
theorem zlb.nil :zlb (.slice none 0 0):=⟨none,0,0,rfl,zLR _,by simp[maxLen],λ _=>rfl⟩
theorem zlb.le {v:Value} (h:zlb v):slen v<=scap v/\scap v<=9223372036854775807:=by
 obtain⟨a,n,cap,rfl,h1,h2,_⟩:=h;simp[maxLen]at h2;simp[slen,scap];omega
def tk (v:Value) (n:Nat):Value:=match v with
 | .slice a _ cap=> .slice a n cap
 | v=>v
def tk3 (v:Value) (n:Nat):Value:=match v with
 | .slice a _ _=> .slice a n n
 | v=>v
def cut (size:Nat) (v:Value) (lo hi:Nat):Value:=match v with
 | .slice a _ cap=> .slice (if cap=lo then a else a.map (·.add (lo*size))) (hi-lo) (cap-lo)
 | v=>v
theorem zlb.tk {v:Value} {m:Nat} (h:zlb v) (hm:m<=scap v):zlb (tk v m):=by
 obtain⟨a,n,cap,rfl,h1,h2,h3⟩:=h;exact⟨a,m,cap,rfl,hm,h2,h3⟩
theorem zlb.tk3 {v:Value} {m:Nat} (h:zlb v) (hm:m<=scap v):zlb (tk3 v m):=by
 obtain⟨a,n,cap,rfl,h1,h2,h3⟩:=h;simp only[scap]at hm;exact⟨a,m,m,rfl,zLR _,zO,λ e=>by have:=h3 e;omega⟩
theorem zlb.cut {v:Value} {size lo hi:Nat} (h:zlb v) (hl:lo<=hi) (hh:hi<=scap v):zlb (cut size v lo hi):=by
 obtain⟨a,n,cap,rfl,h1,h2,h3⟩:=h;simp only[scap]at hh;refine⟨_,_,cap-lo,rfl,zO,zO,λ e=> ?_⟩;split at e
 ·omega
 ·have :a=none:=by cases a<;>simp_all
  have:=h3 this;omega
theorem zlb.slen_tk {v:Value} (h:zlb v) (m:Nat):slen (Go.Proofs.YtkpedaflofejnaaGreat.tk v m)=m:=by obtain⟨a,n,cap,rfl,_⟩:=h;rfl
theorem zlb.slen_tk3 {v:Value} (h:zlb v) (m:Nat):slen (Go.Proofs.YtkpedaflofejnaaGreat.tk3 v m)=m:=by obtain⟨a,n,cap,rfl,_⟩:=h;rfl
theorem zlb.slen_cut {v:Value} (h:zlb v) (size lo hi:Nat):slen (Go.Proofs.YtkpedaflofejnaaGreat.cut size v lo hi)=hi-lo:=by obtain⟨a,n,cap,rfl,_⟩:=h;rfl
@[simp] theorem base_tk (v : Value) (m : Nat) : base (tk v m) = base v := by cases v <;> first | rfl | (rename_i a n c; cases a <;> rfl)
@[simp] theorem base_tk3 (v : Value) (m : Nat) : base (tk3 v m) = base v := by cases v <;> first | rfl | (rename_i a n c; cases a <;> rfl)
@[simp, go_sem] theorem ptr_tk (v : Value) (m k : Nat) : ptr (tk v m) k = ptr v k := by simp [ptr]
@[simp, go_sem] theorem ptr_tk3 (v : Value) (m k : Nat) : ptr (tk3 v m) k = ptr v k := by simp [ptr]
theorem ptr_cut {v:Value} {size lo hi k:Nat} (h:zlb v) (hh:lo<scap v):ptr (cut size v lo hi) k=ptr v (lo*size+k):=by
 obtain⟨a,n,cap,rfl,h1,h2,h3⟩:=h;simp only[scap]at hh
 cases a with
 | none=>have:=h3 rfl;omega
 | some a=>
   simp only[cut,ptr];rw[zIN zO];simp only[base,Option.map_some,add_add]
section
variable {P:Program} (w:World)
@[go_sem ↓] theorem run_len_sl {t ty : TypeId} {v : Value} (h : zlb v) (ht : P.underlying t = some (.slice (P.elem t))) :
 (Builtin.len_ #[t] ty #[v]).run P w= .ok (.int .i64 (slen v)) w:=by
  obtain⟨a,n,cap,rfl,_⟩:=h;simp[Builtin.len_,run_underlying ht,goInt,slen]
@[go_sem ↓] theorem run_index_sl {t : TypeId} {v : Value} {i : Int} (h : zlb v) (ht : P.underlying t = some (.slice (P.elem t))) :
 (Instr.indexAt t v (.int .i64 i)).run P w=
  if 0<=i/\i<slen v then((sizeOf (P.elem t)).run P w).andThen λ s w=> .ok (.pointer (some (ptr v (i.toNat*s)))) w
  else(boundsPanic .i64 i (slen v) .index).run P w:=by
  obtain⟨a,n,cap,rfl,hn,_,h3⟩:=h
  cases a with
  | none=>
    have:=h3 rfl;obtain rfl:n=0:=zO;rw[zIN (by simp only[slen];omega)];simp[Instr.indexAt,run_underlying ht,asIntOf,slen]
  | some a=>
    by_cases hc:0<=i/\i<((slen (.slice (some a) n cap):Nat):Int)
    ·have hc':0<=i/\i<(n:Int):=hc;rw[zIP hc];simp[Instr.indexAt,run_underlying ht,asIntOf,hc',ptr,base]
    ·have hc':¬ (0<=i/\i<(n:Int)):=hc;rw[zIN hc];simp[Instr.indexAt,run_underlying ht,asIntOf,hc',slen]
@[go_sem ↓] theorem run_slice_tk {t : TypeId} {v : Value} {m : Int} (h : zlb v) (ht : P.underlying t = some (.slice (P.elem t))) (h0 : 0 <= m) (h1 : m <= scap v) :
 (Instr.slice t v none (some (.int .i64 m)) none).run P w=((sizeOf (P.elem t)).run P w).andThen λ _ w=> .ok (tk v m.toNat) w:=by
  obtain⟨a,n,cap,rfl,hn,_,h3⟩:=h;simp only[scap]at h1;simp[Instr.slice,run_underlying ht,Instr.sliceBounds,Instr.sliceBound,asIntOf,h0,h1,tk];cases a<;>simp[Addr.add]
@[go_sem ↓] theorem run_slice_tk3 {t : TypeId} {v : Value} {m : Int} (h : zlb v) (ht : P.underlying t = some (.slice (P.elem t))) (h0 : 0 <= m) (h1 : m <= scap v) :
 (Instr.slice t v none (some (.int .i64 m)) (some (.int .i64 m))).run P w=((sizeOf (P.elem t)).run P w).andThen λ _ w=> .ok (tk3 v m.toNat) w:=by
  obtain⟨a,n,cap,rfl,hn,_,h3⟩:=h;simp only[scap]at h1;have e:(m.toNat:Int)=m:=Int.toNat_of_nonneg h0;simp[Instr.slice,run_underlying ht,Instr.sliceBounds,Instr.sliceBound,asIntOf,h0,h1,e,tk3];cases a<;>simp[Addr.add]
def sliceElse (P:Program) (w:World) (t:TypeId) (v:Value) (lo hi:Value):Result Value:=(Instr.slice t v (some lo) (some hi) none).run P w
@[go_sem ↓] theorem run_slice_cut {t : TypeId} {v : Value} {lo hi : Int} (h : zlb v) (ht : P.underlying t = some (.slice (P.elem t))) :
 (Instr.slice t v (some (.int .i64 lo)) (some (.int .i64 hi)) none).run P w=
  if 0<=lo/\lo<=hi/\hi<=scap v then((sizeOf (P.elem t)).run P w).andThen λ s w=> .ok (cut s v lo.toNat hi.toNat) w else sliceElse P w t v (.int .i64 lo) (.int .i64 hi):=by
  obtain⟨a,n,cap,rfl,hn,_,h3⟩:=h;by_cases hc:0<=lo/\lo<=hi/\hi<=(scap (.slice a n cap):Int)
  ·have hc':=hc;obtain⟨h0,h1,h2⟩:=hc';simp only[scap]at h2;rw[zIP hc];have e:(hi.toNat:Int)=hi:=Int.toNat_of_nonneg zO;have h00:0<=hi:=zO;simp[Instr.slice,run_underlying ht,Instr.sliceBounds,Instr.sliceBound,asIntOf,h0,h1,h00,h2,e,cut]
  ·rw[zIN hc];rfl
@[go_sem ↓] theorem run_sliceAt_any {t : TypeId} {v : Value} {lo hi mx : Option Value} (h : P.underlying t = some (.slice (P.elem t))) :
 (Instr.sliceAt t v lo hi mx).run P w=(Instr.slice t v lo hi mx).run P w:=by
  simp[Instr.sliceAt,run_underlying h]
end
theorem zia {B:Nat} (w:World) (k:Nat):Below B w (w.drewN k):=⟨rfl,rfl,rfl,zLR _,λ _ _=>rfl⟩
structure ztc (w:World) (v:Value) (l:List Nat):Prop where
 sl:zlb v
 len:slen v=l.length
 cell:∀ (j:Nat) (h:j<l.length),w.cell? (ptr v j)=some (.int .u32 (l[j]:Nat))
 lm:Lm l
theorem ztc.nil (w:World):ztc w (.slice none 0 0) []:=⟨zlb.nil,rfl,λ j h=>by simp at h,λ x h=>by simp at h⟩
theorem ztc.bw {w w':World} {v:Value} {l:List Nat} (h:ztc w v l) (hb:Below w.heap.size w w'):ztc w' v l:=
 ⟨h.sl,h.len,λ j hj=>by
  have hc:=h.cell j hj;have hlt:=World.block_lt_of_cell? w _ hc;rw[hb.cell hlt];exact hc,h.lm⟩
theorem ztc.tk {w:World} {v:Value} {l:List Nat} (h:ztc w v l) (n:Nat) (hn:n<=l.length):ztc w (tk v n) (l.take n):=by
 have e:(l.take n).length=n:=by simp;omega
 have:=h.sl.le;have:=h.len;refine⟨h.sl.tk zO,by rw[e];exact h.sl.slen_tk n,λ j hj=> ?_,λ x hx=>h.lm x (List.mem_of_mem_take hx)⟩;have:=h.cell j zO;simp[this]
theorem ztc.tk3 {w:World} {v:Value} {l:List Nat} (h:ztc w v l) (n:Nat) (hn:n<=l.length):ztc w (tk3 v n) (l.take n):=by
 have e:(l.take n).length=n:=by simp;omega
 have:=h.sl.le;have:=h.len;refine⟨h.sl.tk3 zO,by rw[e];exact h.sl.slen_tk3 n,λ j hj=> ?_,λ x hx=>h.lm x (List.mem_of_mem_take hx)⟩;have:=h.cell j zO;simp[this]
theorem ztc.cut {w:World} {v:Value} {l:List Nat} (h:ztc w v l) (lo hi:Nat) (hl:lo<=hi) (hh:hi<=l.length):ztc w (cut 1 v lo hi) ((l.drop lo).take (hi-lo)):=by
 have e:((l.drop lo).take (hi-lo)).length=hi-lo:=by simp;omega
 have:=h.sl.le;have:=h.len;refine⟨h.sl.cut hl zO,by rw[e];exact h.sl.slen_cut 1 lo hi,λ j hj=> ?_,λ x hx=>h.lm x (List.mem_of_mem_drop (List.mem_of_mem_take hx))⟩;rw[ptr_cut h.sl zO,Nat.mul_one,h.cell (lo+j) zO];simp
theorem ztc.lt {w:World} {v:Value} {l:List Nat} (h:ztc w v l) (j:Nat) (hj:j<l.length):l[j]<4294967296:=h.lm _ (zGM hj)
end Go.Proofs.YtkpedaflofejnaaGreat
