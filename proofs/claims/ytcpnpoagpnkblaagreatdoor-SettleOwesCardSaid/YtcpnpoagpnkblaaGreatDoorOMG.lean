/- Texts of this work put together, their blanks and comments taken out: Dig, Rt, Ext, Wrd, Txt. -/
import Derived.Calls
import Derived.Test.YtcpnpoagpnkblaaGreatDoorOMA
import Derived.Test.YtcpnpoagpnkblaaGreatDoorOMF
set_option linter.unusedVariables false
set_option linter.unusedSimpArgs false
section
namespace Rf
def vl(b:Nat):List Nat->Nat
 |[]=>0
 |d::l=>d+b*vl b l
def dg(b:Nat)(n:Nat):List Nat :=
 if h:n=0\/b<2 then []else n%b::dg b (n / b)
termination_by n
decreasing_by
 have h1:0<n:=by omega
 exact Cv h1 (by omega)
def tz:List Nat->List Nat
 |[]=>[]
 |d::l=>if d=0/\tz l=[]then []else d::tz l
def Dg(b:Nat)(l:List Nat):Prop:=∀d,d∈l->d<b
theorem q18(b:Nat):dg b 0=[]:=by rw[dg];simp
theorem q3h{b n:Nat}(hb:2<=b:=by omega)(hn:n≠0:=by omega):dg b n=n%b::dg b (n / b):=by
 rw[dg,Cg (by omega)]
theorem q22{b:Nat}(hb:2<=b)(n:Nat):vl b (dg b n)=n:=by
 induction n using Nat.strongRecOn with
 |_ n ih =>
  by_cases hn:n=0
  ·subst hn;rw[q18];rfl
  ·rw[q3h hb hn,vl,ih (n / b) (Cv (by omega) (by omega))];exact Cs n b
theorem q12{b:Nat}(hb:2<=b)(n:Nat):Dg b (dg b n):=by
 induction n using Nat.strongRecOn with
 |_ n ih =>
  by_cases hn:n=0
  ·subst hn;rw[q18];intro d h;cases h
  ·rw[q3h hb hn];intro d h;rcases Ar.1 h with rfl | h
   ·exact AL _ (by omega)
   ·exact ih (n / b) (Cv (by omega) (by omega)) d h
theorem q52{b:Nat}(hb:2<=b){n:Nat}:dg b n=[]↔n=0:=by
 constructor
 ·intro h;by_cases hn:n=0
  ·exact hn
  ·rw[q3h hb hn]at h;cases h
 ·rintro rfl;exact q18 b
theorem Dg.tail{b d:Nat}{l:List Nat}(h:Dg b (d::l)):d<b/\Dg b l:=⟨h d (by simp),λx hx=>h x (by simp[hx])⟩
theorem Dg.cons{b d:Nat}{l:List Nat}(hd:d<b)(h:Dg b l):Dg b (d::l):=λx hx=>by
 rcases Ar.1 hx with rfl | hx
 ·exact hd
 ·exact h x hx
theorem Dg.app{b:Nat}{l m:List Nat}(h:Dg b l)(h':Dg b m):Dg b (l++m):=λx hx=>by
 rcases BL.1 hx with hx | hx
 ·exact h x hx
 ·exact h' x hx
theorem q39{b:Nat}(hb:2<=b):∀ {l:List Nat},Dg b l->dg b (vl b l)=tz l
 |[],_=>q18 b
 |d::l,h=>by
  obtain⟨hd,hl⟩:=h.tail;have ih:=q39 hb hl;simp only[vl,tz];by_cases h0:d+b*vl b l=0
  ·have h1:d=0:=by omega
   have h2:vl b l=0:=by
    have:b*vl b l=0:=by omega
    rcases Nat.mul_eq_zero.1 this with h | h
    ·omega
    ·exact h
   rw[h0,q18,if_pos ⟨h1,by rw[<- ih,h2,q18]⟩]
  ·rw[q3h hb h0,DA,AK hd,FA _ _ (by omega),CV hd,AJ,ih,if_neg];rintro⟨h1,h2⟩;rw[<- ih]at h2;have:=(q52 hb).1 h2;rw[h1,this]at h0;exact h0 (by simp)
theorem q6e(b:Nat):∀(l m:List Nat),vl b (l++m)=vl b l+b^l.length*vl b m
 |[],m=>by simp[vl]
 |d::l,m=>by
  simp only[Al,vl,q6e b l m,Aq,Ax];rw[AE,AC (b^l.length) b,AU];omega
theorem q4m{b:Nat}(hb:1<=b):∀ {l:List Nat},Dg b l->vl b l<b^l.length
 |[],_=>by simp[vl]
 |d::l,h=>by
  obtain⟨hd,hl⟩:=h.tail;have ih:=q4m hb hl;simp only[vl,Aq,Ax];have:b*vl b l+b<=b*b^l.length:=by
   rw[<- Ce];exact BB b ih
  rw[AC (b^l.length) b];omega
theorem tz_dg{b:Nat}(hb:2<=b)(n:Nat):tz (dg b n)=dg b n:=by
 rw[<- q39 hb (q12 hb n),q22 hb]
theorem qcr:∀(l:List Nat),tz (l++[0])=tz l
 |[]=>rfl
 |d::l=>by simp only[Al,tz,qcr l]
theorem qcs{d:Nat}(hd:d≠0):∀(l:List Nat),tz (l++[d])=l++[d]
 |[]=>by simp[tz,hd]
 |x::l=>by
  simp only[Al,tz,qcs hd l];rw[if_neg (by simp)]
theorem tz_len:∀(l:List Nat),(tz l).length<=l.length
 |[]=>Ak _
 |d::l=>by
  simp only[tz];have:=tz_len l;split
  ·simp
  ·simp;exact this
theorem dg_last{b:Nat}(hb:2<=b){n:Nat}{l:List Nat}{d:Nat}(h:dg b n=l++[d]):d≠0:=by
 intro h0;have h1:=tz_dg hb n;rw[h,h0,qcr]at h1;have:=tz_len l;have:=congrArg List.length h1;simp at this;omega
theorem q5i{b:Nat}(hb:2<=b){n k:Nat}(h:n<b^k):(dg b n).length<=k:=by
 induction k generalizing n with
 |zero =>
      have:n=0:=by simpa using h
      subst this;rw[q18];exact BP _
 |succ k ih =>
  by_cases hn:n=0
  ·subst hn;rw[q18];exact BP _
  ·rw[q3h hb hn,Aq];have:n / b<b^k:=by
    rw[BJ (by omega)];rw[Ax]at h;exact h
   have:=ih this;omega
theorem q98{b:Nat}(hb:2<=b)(n:Nat):n<b^(dg b n).length:=by
 have:=q4m (b:=b) (by omega) (q12 hb n);rwa[q22 hb]at this
theorem pow_le_dg{b:Nat}(hb:2<=b){n:Nat}(hn:n≠0):b^((dg b n).length-1)<=n:=by
 induction n using Nat.strongRecOn with
 |_ n ih =>
  rw[q3h hb hn,Aq,EK];by_cases h0:n / b=0
  ·rw[h0,q18];simp;omega
  ·have h1:=ih (n / b) (Cv (by omega) (by omega)) h0;have h2:(dg b (n / b)).length≠0:=λh=>h0 ((q52 hb).1 (Dk.1 h));have:b^(dg b (n / b)).length=b^((dg b (n / b)).length-1)*b:=by
    rw[<- Ax];congr 1;omega
   rw[this];exact AZ (AR b h1) (EG n b)
theorem qa7{b:Nat}(hb:2<=b){m n:Nat}(h:(dg b m).length<(dg b n).length):m<n:=by
 have hn:n≠0:=λh0=>by subst h0;rw[q18]at h;cases h
 have h1:=q98 hb m;have h2:=pow_le_dg hb hn;have h3:b^(dg b m).length<=b^((dg b n).length-1):=AX (by omega) (by omega);omega
theorem qa4(b:Nat)(l:List Nat)(d:Nat):vl b (l++[d])=vl b l+b^l.length*d:=by
 rw[q6e];simp[vl]
theorem qcu{b:Nat}(hb:1<=b){l m:List Nat}{x y:Nat}(h:Dg b l)(h':Dg b m)(hlen:l.length=m.length)(hxy:x<y)(r:List Nat):vl b (l++x::r)<vl b (m++y::r):=by
 rw[q6e,q6e];simp only[vl];have h1:=q4m hb h;rw[hlen]at h1 ⊢;have h2:b^m.length*x+b^m.length<=b^m.length*y:=by
  rw[<- Ce];exact BB _ hxy
 rw[AE,AE];omega
def addL(B:Nat):List Nat->List Nat->Nat->List Nat
 |[],_,c=>[c]
 |x::a,b,c=>((c+x+b.headD 0)%B)::addL B a b.tail ((c+x+b.headD 0) / B)
theorem vl_head(B:Nat)(b:List Nat):vl B b=b.headD 0+B*vl B b.tail:=by
 cases b with
 |nil=>simp[vl]
 |cons x b=>rfl
theorem Dg.headD{B:Nat}(hB:0<B){b:List Nat}(h:Dg B b):b.headD 0<B:=by
 cases b with
 |nil=>simpa using hB
 |cons x b=>exact h x (by simp)
theorem Dg.tl{B:Nat}{b:List Nat}(h:Dg B b):Dg B b.tail:=λx hx=>h x (List.mem_of_mem_tail hx)
theorem qfc{B:Nat}:∀(a b:List Nat) (c:Nat),b.length<=a.length->vl B (addL B a b c)=vl B a+vl B b+c
 |[],b,c,h=>by
  have:b=[]:=BF (by simpa using h);subst this;simp[addL,vl]
 |x::a,b,c,h=>by
  have ih:=qfc (B:=B) a b.tail ((c+x+b.headD 0) / B) (by rw[List.length_tail];simp at h;omega);simp only[addL,vl,ih];have h1:=vl_head B b;have h2:=Cs (c+x+b.headD 0) B;rw[AE,AE];omega
theorem qfb{B:Nat}(hB:2<=B):∀(a b:List Nat) (c:Nat),Dg B a->Dg B b->c<=1->Dg B (addL B a b c)
 |[],_,c,_,_,hc=>by
  intro d hd;simp only[addL,BN]at hd;omega
 |x::a,b,c,ha,hb,hc=>by
  obtain⟨hx,ha'⟩:=ha.tail;have hy:=hb.headD (by omega);refine Dg.cons (AL _ (by omega)) (qfb hB a b.tail _ ha' hb.tl ?_);have:c+x+b.headD 0<2*B:=by omega
  have:=BI (m:=c+x+b.headD 0) (n:=B) (k:=2) (by rw[AC];exact this);omega
def subL(B:Nat):List Nat->List Nat->Nat->List Nat×Nat
 |[],_,c=>([],c)
 |x::a,b,c =>
  let r:=subL B a b.tail (if x<b.headD 0+c then 1 else 0)
  ((B+x-b.headD 0-c)%B::r.1,r.2)
theorem qfe{B:Nat}(hB:2<=B):∀(a b:List Nat) (c:Nat),Dg B a->Dg B b->c<=1->b.length<=a.length ->
  vl B (subL B a b c).1+vl B b+c=vl B a+B^a.length*(subL B a b c).2/\Dg B (subL B a b c).1/\(subL B a b c).1.length=a.length/\(subL B a b c).2<=1
 |[],b,c,_,_,hc,h=>by
  have:b=[]:=BF (by simpa using h);subst this;refine⟨by simp[subL,vl],λd hd=>by simp[subL]at hd,rfl,by simpa[subL]using hc⟩
 |x::a,b,c,ha,hb,hc,h=>by
  obtain⟨hx,ha'⟩:=ha.tail;have hy:=hb.headD (by omega);obtain⟨h1,h2,h3,h4⟩:=qfe hB a b.tail (if x<b.headD 0+c then 1 else 0) ha' hb.tl (by split <;> omega) (by rw[List.length_tail];simp at h;omega);have hh:=vl_head B b;simp only[subL];refine⟨?_,Dg.cons (AL _ (by omega)) h2,by simp only[Aq,h3],h4⟩;simp only[vl,Aq,Ax];generalize (subL B a b.tail (if x<b.headD 0+c then 1 else 0)).2=o at h1 h4 ⊢;generalize vl B (subL B a b.tail (if x<b.headD 0+c then 1 else 0)).1=V at h1 ⊢;have e:B*V+B*vl B b.tail+B*(if x<b.headD 0+c then 1 else 0)=B*vl B a+B^a.length*B*o:=by
   rw[<- AE,<- AE,h1,AE,AC (B^a.length) B,AU]
  by_cases hlt:x<b.headD 0+c
  ·rw[if_pos hlt]at e;by_cases hz:B+x-b.headD 0-c<B
   ·rw[AK hz];omega
   ·omega
  ·rw[if_neg hlt]at e;have:B+x-b.headD 0-c=(x-b.headD 0-c)+B:=by omega
   rw[this,FB,AK (by omega)];omega
def mulL(B:Nat):List Nat->Nat->Nat->List Nat
 |[],_,c=>[c]
 |x::a,k,c=>((c+x*k)%B)::mulL B a k ((c+x*k) / B)
theorem qf9{B:Nat}:∀(a:List Nat) (k c:Nat),vl B (mulL B a k c)=vl B a*k+c
 |[],k,c=>by simp[mulL,vl]
 |x::a,k,c=>by
  simp only[mulL,vl,qf9 a k];have h2:=Cs (c+x*k) B;rw[AE,AT,AU];omega
theorem qb9{B c x k:Nat}(hx:x<B)(hk:k<B)(hc:c<B):c+x*k<B*B:=by
 have h1:x*k<=(B-1)*(B-1):=Cw (by omega) (by omega);have h2:(B-1)*(B-1)+B<=B*B:=by
  obtain⟨m,rfl⟩:∃m,B=m+1:=⟨B-1,by omega⟩;simp only[EK];rw[Ce,Dh];omega
 omega
theorem qf8{B:Nat}:∀(a:List Nat) (k c:Nat),Dg B a->k<B->c<B->Dg B (mulL B a k c)
 |[],k,c,_,_,hc=>λd hd=>by simp only[mulL,BN]at hd;omega
 |x::a,k,c,ha,hk,hc=>by
  obtain⟨hx,ha'⟩:=ha.tail;exact Dg.cons (AL _ (by omega)) (qf8 a k _ ha' hk (BI (qb9 hx hk hc)))
def divL(B k:Nat):List Nat->Nat×List Nat
 |[]=>(0,[])
 |d::l=>let r:=divL B k l;((r.1*B+d)%k,(r.1*B+d) / k::r.2)
theorem q6f{B k:Nat}(hk:0<k):∀(l:List Nat),Dg B l->vl B l=k*vl B (divL B k l).2+(divL B k l).1/\(divL B k l).1<k/\Dg B (divL B k l).2/\(divL B k l).2.length=l.length
 |[],_=>⟨by simp[divL,vl],hk,λd h=>by simp[divL]at h,rfl⟩
 |d::l,h=>by
  obtain⟨hd,hl⟩:=h.tail;obtain⟨h1,h2,h3,h4⟩:=q6f hk l hl;simp only[divL];refine⟨?_,AL _ hk,Dg.cons ?_ h3,by simp[h4]⟩
  ·simp only[vl];generalize (divL B k l).1=r at *
   generalize vl B (divL B k l).2=q at *
   have e:=DH (r*B+d) k;rw[AE,h1,AE,DU k B q,AC r B]at *
   omega
  ·rw[BJ hk];have:((divL B k l).1+1)*B<=k*B:=AR B h2;rw[Dh]at this;rw[AC B k];omega
def maRow(B:Nat):List Nat->List Nat->Nat->Nat->List Nat
 |acc,[],_,c=>acc.set 0 c
 |[],_::_,_,_=>[]
 |h::t,y::b,x,c=>((c+(h+x*y))%B)::maRow B t b x ((c+(h+x*y)) / B)
theorem qcv{B:Nat}(hB:2<=B):∀(acc b rest:List Nat) (x c:Nat),acc.length=b.length->Dg B acc->Dg B b->x<B->c<B ->
  ∃w,maRow B (acc++0::rest) b x c=w++rest/\w.length=b.length+1/\Dg B w/\vl B w=vl B acc+x*vl B b+c
 |[],[],rest,x,c,_,_,_,_,hc=>⟨[c],by simp[maRow],rfl,λd hd=>by simp at hd;omega,by simp[vl]⟩
 |[],_::_,_,_,_,h,_,_,_,_=>by simp at h
 |_::_,[],_,_,_,h,_,_,_,_=>by simp at h
 |a::acc,y::b,rest,x,c,h,ha,hb,hx,hc=>by
  obtain⟨ha1,ha2⟩:=ha.tail;obtain⟨hb1,hb2⟩:=hb.tail;have hlt:c+(a+x*y)<B*B:=by
   have h1:x*y<=(B-1)*(B-1):=Cw (by omega) (by omega);have h2:(B-1)*(B-1)+(B-1)+B<=B*B:=by
    obtain⟨m,rfl⟩:∃m,B=m+1:=⟨B-1,by omega⟩;simp only[EK];rw[Ce,Dh];omega
   omega
  obtain⟨w,h1,h2,h3,h4⟩:=qcv hB acc b rest x ((c+(a+x*y)) / B) (by simpa using h) ha2 hb2 hx (BI hlt);refine⟨(c+(a+x*y))%B::w,by simp[maRow,h1],by simp[h2],Dg.cons (AL _ (by omega)) h3,?_⟩;simp only[vl,h4];have e:=Cs (c+(a+x*y)) B;rw[AE,AE,AE,DU B x];omega
def mulO(B:Nat):List Nat->List Nat->List Nat->List Nat
 |[],acc,_=>acc
 |x::a,acc,b=>match maRow B acc b x 0 with
  |[]=>[]
  |d::t=>d::mulO B a t b
theorem qff{B:Nat}(hB:2<=B):∀(a w b:List Nat),w.length=b.length->Dg B w->Dg B b->Dg B a ->
  vl B (mulO B a (w++List.replicate a.length 0) b)=vl B w+vl B a*vl B b/\Dg B (mulO B a (w++List.replicate a.length 0) b)/\(mulO B a (w++List.replicate a.length 0) b).length=a.length+b.length
 |[],w,b,h,hw,hb,_=>by simp[mulO,vl,h,hw]
 |x::a,w,b,h,hw,hb,ha=>by
  obtain⟨hx,ha'⟩:=ha.tail;obtain⟨w',h1,h2,h3,h4⟩:=qcv hB w b (List.replicate a.length 0) x 0 h hw hb hx (by omega);simp only[Aq,Cc,mulO,h1];cases w' with
  |nil=>simp at h2
  |cons d t =>
   simp only[Al];obtain⟨hd,ht⟩:=h3.tail;obtain⟨g1,g2,g3⟩:=qff hB a t b (by simpa using h2) ht hb ha';refine⟨?_,Dg.cons hd g2,by simp[g3];omega⟩;simp only[vl]at h4 ⊢;rw[g1,AE,AT];have:B*(vl B a*vl B b)=B*vl B a*vl B b:=(AU _ _ _).symm;omega
def msL(B:Nat):List Nat->List Nat->Nat->Nat->Nat->List Nat×Nat
 |[],_,_,_,br=>([],br)
 |[u],[],_,ca,br=>([(B+u-ca%B-br)%B],if u<ca%B+br then 1 else 0)
 |u::us,[],g,ca,br=>let r:=msL B us [] g (ca / B) (if u<ca%B+br then 1 else 0);((B+u-ca%B-br)%B::r.1,r.2)
 |u::us,v::vs,g,ca,br =>
  let r:=msL B us vs g ((ca+g*v) / B) (if u<(ca+g*v)%B+br then 1 else 0)
  ((B+u-(ca+g*v)%B-br)%B::r.1,r.2)
theorem qnk{B u y br:Nat}(hu:u<B)(hy:y<B)(hb:br<=1):(B+u-y-br)%B+y+br=u+B*(if u<y+br then 1 else 0)/\(B+u-y-br)%B<B:=by
 refine⟨?_,AL _ (by omega)⟩;by_cases h:u<y+br
 ·rw[if_pos h];by_cases hz:B+u-y-br<B
  ·rw[AK hz];omega
  ·omega
 ·rw[if_neg h];have:B+u-y-br=(u-y-br)+B:=by omega
  rw[this,FB,AK (by omega)];omega
theorem msL_ok{B:Nat}(hB:2<=B):∀(us vs:List Nat) (g ca br:Nat),us.length=vs.length+1->Dg B us->Dg B vs->g<B->ca<B->br<=1 ->
  vl B (msL B us vs g ca br).1+g*vl B vs+ca+br=vl B us+B^us.length*(msL B us vs g ca br).2/\Dg B (msL B us vs g ca br).1/\(msL B us vs g ca br).1.length=us.length/\(msL B us vs g ca br).2<=1
 |[],_,_,_,_,h,_,_,_,_,_=>by simp at h
 |[u],[],g,ca,br,_,hu,_,_,hc,hb=>by
  obtain⟨e1,e2⟩:=qnk (hu u (by simp)) hc hb;simp only[msL,AK hc];refine⟨?_,λd hd=>by simp only[BN]at hd;omega,rfl,by split <;> omega⟩;simp only[vl,Cm,Nat.pow_one,Cj,Ay];omega
 |_::_::_,[],_,_,_,h,_,_,_,_,_=>by simp at h
 |u::us,v::vs,g,ca,br,h,hu,hv,hg,hc,hb=>by
  obtain⟨hu1,hu2⟩:=hu.tail;obtain⟨hv1,hv2⟩:=hv.tail;have hm:(ca+g*v)%B<B:=AL _ (by omega);obtain⟨e1,e2⟩:=qnk hu1 hm hb;obtain⟨h1,h2,h3,h4⟩:=msL_ok hB us vs g ((ca+g*v) / B) (if u<(ca+g*v)%B+br then 1 else 0) (by simpa using h) hu2 hv2 hg (BI (qb9 hg hv1 hc)) (by split <;> omega);simp only[msL];refine⟨?_,Dg.cons e2 h2,by simp only[Aq,h3],h4⟩;simp only[vl,Aq,Ax];generalize (msL B us vs g ((ca+g*v) / B) (if u<(ca+g*v)%B+br then 1 else 0)).2=o at h1 h4 ⊢;generalize vl B (msL B us vs g ((ca+g*v) / B) (if u<(ca+g*v)%B+br then 1 else 0)).1=V at h1 ⊢;have e3:=Cs (ca+g*v) B;have e4:B*V+B*(g*vl B vs)+B*((ca+g*v) / B)+B*(if u<(ca+g*v)%B+br then 1 else 0)=B*vl B us+B^us.length*B*o:=by
   rw[<- AE,<- AE,<- AE,h1,AE,AC (B^us.length) B,AU]
  have e5:g*(v+B*vl B vs)=g*v+B*(g*vl B vs):=by rw[AE,DU]
  rw[e5];omega
def abL(B:Nat):List Nat->List Nat->Nat->List Nat
 |[],_,_=>[]
 |u::us,[],c=>(u+c)%B::us
 |u::us,v::vs,c=>((u+v+c)%B)::abL B us vs ((u+v+c) / B)
theorem abL_ok{B:Nat}(hB:2<=B):∀(us vs:List Nat) (c:Nat),us.length=vs.length+1->Dg B us->Dg B vs->c<=1 ->
  (vl B us+vl B vs+c)%B^us.length=vl B (abL B us vs c)/\Dg B (abL B us vs c)/\(abL B us vs c).length=us.length
 |[],_,_,h,_,_,_=>by simp at h
 |[u],[],c,_,hu,_,hc=>by
  simp only[abL];exact⟨by simp[vl],λd hd=>by simp only[BN]at hd;rw[hd];exact AL _ (by omega),rfl⟩
 |_::_::_,[],_,h,_,_,_=>by simp at h
 |u::us,v::vs,c,h,hu,hv,hc=>by
  obtain⟨hu1,hu2⟩:=hu.tail;obtain⟨hv1,hv2⟩:=hv.tail;have hdc:(u+v+c) / B<=1:=by
   have:=BI (m:=u+v+c) (n:=B) (k:=2) (by omega);omega
  obtain⟨h1,h2,h3⟩:=abL_ok hB us vs ((u+v+c) / B) (by simpa using h) hu2 hv2 hdc;simp only[abL];refine⟨?_,Dg.cons (AL _ (by omega)) h2,by simp only[Aq,h3]⟩;simp only[vl,Aq,<- h1];have e3:=Cs (u+v+c) B;have:u+B*vl B us+(v+B*vl B vs)+c=(u+v+c)%B+B*(vl B us+vl B vs+(u+v+c) / B):=by
   rw[AE,AE];omega
  rw[this,Ax,AC (B^us.length) B];generalize vl B us+vl B vs+(u+v+c) / B=X;have hm:(u+v+c)%B<B:=AL _ (by omega);generalize (u+v+c)%B=m at hm;have hX:=Cs X (B^us.length);have hP:0<B^us.length:=Bx (by omega);have hl:m+B*(X%B^us.length)<B*B^us.length:=by
   have:B*(X%B^us.length)+B<=B*B^us.length:=by rw[<- Ce];exact BB B (AL _ hP)
   omega
  have e:m+B*X=m+B*(X%B^us.length)+B*B^us.length*(X / B^us.length):=by
   conv=>lhs;rw[<- hX]
   rw[AE,AU];omega
  rw[e,DA,AK hl]
theorem guess_ge{B P U V top v1 v2 u3 lowU lowV g q:Nat}(hP:0<P)(hU:U=(top*B+u3)*P+lowU)(hlU:lowU<P)(hV:V=(v1*B+v2)*P+lowV)(hq:q*V<=U)
  (hg:top*B+u3<g*(v1*B+v2)):q<g:=by
 refine Nat.lt_of_not_le λhle=>?_;have h1:g*((v1*B+v2)*P)<=U:=by
  refine AZ ?_ hq;refine Cw hle ?_;rw[hV];omega
 have h2:(top*B+u3+1)*P<=g*(v1*B+v2)*P:=AR P hg;rw[Dh,AU]at h2;omega
theorem guess_top{B P U V top v1 v2 u3 lowU lowV q:Nat}(hB:0<B)(hP:0<P)(hu3:u3<B)(hU:U=(top*B+u3)*P+lowU)(hlU:lowU<P)(hV:V=(v1*B+v2)*P+lowV)(hv1:0<v1)(hq:q*V<=U):q<=top / v1:=by
 rw[FF hv1];refine Dl λhlt=>?_;have h1:q*v1*(B*P)<=U:=by
  refine AZ ?_ hq;rw[hV,AU];refine BB q ?_;rw[AT,AU];omega
 have h2:(top+1)*(B*P)<=q*v1*(B*P):=AR _ hlt;have h3:(top*B+u3)*P+lowU<(top+1)*(B*P):=by
  have e:(top+1)*(B*P)=(top*B+(B-1))*P+P:=by
   rw[AT,AT,Nat.sub_mul,Cf,Cf,AU];have:P<=B*P:=FR P hB;omega
  have:(top*B+u3)*P<=(top*B+(B-1))*P:=AR P (by omega);omega
 omega
theorem guess_le{B P U V top v1 v2 u3 lowU lowV g:Nat}(hU:U=(top*B+u3)*P+lowU)(hV:V=(v1*B+v2)*P+lowV)(hlV:lowV<P)(hv1:0<v1)(hgB:g<B)
  (hg:g*(v1*B+v2)<=top*B+u3):g*V<U+V:=by
 have h1:g*V<=g*((v1*B+v2)*P)+g*P:=by
  rw[hV,AE];have:=BB g (CW hlV);omega
 have h2:g*((v1*B+v2)*P)<=U:=by
  rw[<- AU,hU];have:=AR P hg;omega
 have h3:g*P<V\/P=0:=by
  by_cases hP:P=0
  ·exact .inr hP
  ·left;have:g*P<B*P:=Fw hgB (by omega)
   have h4:B*P<=(v1*B+v2)*P:=AR P (by
    have:=FR B hv1
    omega)
   omega
 rcases h3 with h3 | h3
 ·omega
 ·omega
def shlL(B s:Nat):List Nat->Nat->List Nat
 |[],c=>[c]
 |x::a,c=>(c+x*2^s%B)::shlL B s a (x*2^s / B)
theorem qi6{B s:Nat}:∀(a:List Nat) (c:Nat),vl B (shlL B s a c)=vl B a*2^s+c
 |[],c=>by simp[shlL,vl]
 |x::a,c=>by
  simp only[shlL,vl,qi6 a];have h2:=Cs (x*2^s) B;rw[AE,AT,AU];omega
def shrL(B s:Nat):List Nat->List Nat
 |u0::u1::u=>((u1*B+u0) / 2^s)%B::shrL B s (u1::u)
 |_=>[]
theorem shrL_ok{K s:Nat}:∀(u:List Nat) (u0:Nat),Dg (2^(K+s)) (u0::u) ->
  Dg (2^(K+s)) (shrL (2^(K+s)) s (u0::u))/\(shrL (2^(K+s)) s (u0::u)).length=u.length /\
   vl (2^(K+s)) (u0::u) / 2^s%(2^(K+s))^u.length=vl (2^(K+s)) (shrL (2^(K+s)) s (u0::u))
 |[],_,_=>⟨λd h=>by simp[shrL]at h,rfl,by simp[shrL,vl,Nat.mod_one]⟩
 |u1::u,u0,h=>by
  obtain⟨h0,h'⟩:=h.tail;obtain⟨g1,g2,g3⟩:=shrL_ok u u1 h';have hB:0<2^(K+s):=Bx (by omega);have hS:0<2^s:=Bx (by omega);have hBs:2^(K+s)=2^s*2^K:=by rw[BZ,AC]
  refine⟨Dg.cons (AL _ hB) g1,by simp only[shrL,Aq,g2],?_⟩;simp only[shrL,vl];rw[<- g3];simp only[vl,Aq];generalize vl (2^(K+s)) u=W;have e1:∀X,(u0+2^(K+s)*X) / 2^s=u0 / 2^s+2^K*X:=λX=>by
   rw[hBs,AU,FA _ _ hS]
  have e2:(u1*2^(K+s)+u0) / 2^s=u0 / 2^s+2^K*u1:=by rw[Bo,AC,e1]
  rw[e1,e2];have hlo:u0 / 2^s<2^K:=by
   rw[BJ hS,AC,<- hBs];exact h0
  have e3:∀X,u0 / 2^s+2^K*X=(u0 / 2^s+2^K*(X%2^s))+2^(K+s)*(X / 2^s):=λX=>by
   have:=Cs X (2^s)
   conv=>lhs;rw[<- this]
   rw[AE,BZ,AU];omega
  have hlt:∀X,u0 / 2^s+2^K*(X%2^s)<2^(K+s):=λX=>by
   have h1:2^K*(X%2^s)+2^K<=2^K*2^s:=by rw[<- Ce];exact BB _ (AL _ hS)
   rw[<- BZ]at h1;omega
  have e4:(u1+2^(K+s)*W)%2^s=u1%2^s:=by rw[hBs,AU,DA]
  rw[e3 u1,DA,AK (hlt u1),e3 (u1+2^(K+s)*W),e4];generalize (u1+2^(K+s)*W) / 2^s=Y;have hm:=hlt u1;generalize u0 / 2^s+2^K*(u1%2^s)=m at hm;generalize 2^(K+s)=B at *
  rw[Ax,AC (B^u.length) B];have hX:=Cs Y (B^u.length);have hP:0<B^u.length:=Bx hB;have hl:m+B*(Y%B^u.length)<B*B^u.length:=by
   have:B*(Y%B^u.length)+B<=B*B^u.length:=by rw[<- Ce];exact BB B (AL _ hP)
   omega
  have e:m+B*Y=m+B*(Y%B^u.length)+B*B^u.length*(Y / B^u.length):=by
   conv=>lhs;rw[<- hX]
   rw[AE,AU];omega
  rw[e,DA,AK hl]
def dK:Nat->Nat->List Nat
 |0,_=>[]
 |k+1,d=>d%10::dK k (d / 10)
theorem dK_len:∀(k d:Nat),(dK k d).length=k
 |0,_=>rfl
 |k+1,d=>by simp only[dK,Aq,dK_len k]
theorem dg_dK{m:Nat}(hm:m≠0):∀(k d:Nat),d<10^k->dg 10 (d+10^k*m)=dK k d++dg 10 m
 |0,d,h=>by
  have:d=0:=by simpa using h
  subst this;simp[dK]
 |k+1,d,h=>by
  have hp:0<10^k*m:=Nat.mul_pos (Bx (by omega)) (by omega);have e:10^(k+1)*m=10*(10^k*m):=by rw[Ax,AC (10^k) 10,AU]
  rw[e,q3h,DA,FA _ _ (by omega)];rw[dg_dK hm k (d / 10) (by rw[Ax]at h;omega)];rfl
theorem dK_dg:∀(k d:Nat),d<10^k->dK k d=dg 10 d++List.replicate (k-(dg 10 d).length) 0
 |0,d,h=>by
  have:d=0:=by simpa using h
  subst this;simp[dK,q18]
 |k+1,d,h=>by
  have h':d / 10<10^k:=by rw[Ax]at h;omega
  have ih:=dK_dg k (d / 10) h';simp only[dK];by_cases h0:d=0
  ·subst h0;rw[ih];simp[q18,Cc]
  ·rw[q3h (by omega) h0,ih,Al,Aq];congr 3;omega
def chD(d:Nat):UInt8:=UInt8.ofNat (48+d)
def ql(n:Nat):List UInt8:=if n=0 then [48]else((dg 10 n).reverse).map chD
def isD(c:UInt8):Bool:=decide (48<=c.toNat)&&decide (c.toNat<=57)
def vD(s:List UInt8):Nat:=s.foldl (λn c=>n*10+(c.toNat-48)) 0
def canon(s:List UInt8):Prop:=s≠[]/\(∀c,c∈s->isD c=true)/\(s.head?=some 48->s.length=1)
theorem qel{d:Nat}(h:d<10):(chD d).toNat=48+d:=by
 unfold chD;rw[UInt8.toNat_ofNat'];omega
theorem chD_isD{d:Nat}(h:d<10):isD (chD d)=true:=by
 unfold isD;rw[qel h];simp;omega
theorem vD_fold(s:List UInt8):∀(n:Nat),s.foldl (λn c=>n*10+(c.toNat-48)) n=n*10^s.length+vD s:=by
 induction s with
 |nil=>intro n;simp[vD]
 |cons c s ih =>
  intro n;simp only[Be,Aq,vD];rw[ih,ih (0*10+(c.toNat-48))];rw[Ax,AT,Do,AJ,AU,AC 10 (10^s.length)];omega
theorem qbo(s t:List UInt8):vD (s++t)=vD s*10^t.length+vD t:=by
 unfold vD;rw[List.foldl_append,vD_fold t];rfl
theorem vD_vl(s:List UInt8):vD s=vl 10 ((s.map λc=>c.toNat-48).reverse):=by
 induction s with
 |nil=>rfl
 |cons c s ih =>
  rw[show c::s=[c]++s from rfl,qbo,ih,Bc,EB,q6e];simp[vD,vl,AC];omega
theorem vD_lt{s:List UInt8}(h:∀c,c∈s->isD c=true):vD s<10^s.length:=by
 rw[vD_vl];have:Dg 10 ((s.map λc=>c.toNat-48).reverse):=λd hd=>by
  rw[FC]at hd;obtain⟨c,hc,rfl⟩:=BD.1 hd;have:=h c hc;simp only[isD,Ai,As]at this;omega
 have:=q4m (b:=10) (by omega) this;simpa using this
theorem chD_back{c:UInt8}(h:isD c=true):chD (c.toNat-48)=c:=by
 simp only[isD,Ai,As]at h;unfold chD;apply UInt8.toNat.inj;rw[UInt8.toNat_ofNat'];have:=c.toNat_lt;omega
theorem qnl{s:List UInt8}(h:canon s):ql (vD s)=s:=by
 obtain⟨h0,h1,h2⟩:=h;obtain⟨c,s,rfl⟩:∃c s',s=c::s':=by cases s with | nil=>exact absurd rfl h0 | cons c s=>exact⟨_,_,rfl⟩
 have hc:=h1 c (by simp);have hD:Dg 10 (((c::s).map λc=>c.toNat-48).reverse):=λd hd=>by
  rw[FC]at hd;obtain⟨x,hx,rfl⟩:=BD.1 hd;have:=h1 x hx;simp only[isD,Ai,As]at this;omega
 have back:((c::s).map λc=>c.toNat-48).map chD=c::s:=by
  rw[Cu]
  conv=>rhs;rw[<- Et (c::s)]
  exact CQ λx hx=>chD_back (h1 x hx)
 by_cases hz:c=48
 ·have hl:=h2 (by rw[hz];rfl);have:s=[]:=BF (by simpa using hl);subst this;subst hz;rfl
 ·have hcn:c.toNat-48≠0:=by
   simp only[isD,Ai,As]at hc;intro h;apply hz;apply UInt8.toNat.inj;have:(48:UInt8).toNat=48:=rfl;omega
  have e:dg 10 (vD (c::s))=((c::s).map λc=>c.toNat-48).reverse:=by
   rw[vD_vl,q39 (by omega) hD,AQ,Fy,qcs hcn]
  have hv:vD (c::s)≠0:=λh=>by
   rw[h,q18]at e;simp at e
  unfold ql;rw[if_neg hv,e,FS,back]
theorem q6n(n:Nat):canon (ql n):=by
 unfold ql;split
 ·exact⟨by simp,λc h=>by rw[BN]at h;rw[h];rfl,λ_=>rfl⟩
 ·rename_i hn;have hne:dg 10 n≠[]:=λh=>hn ((q52 (by omega)).1 h);refine⟨by simpa using hne,λc h=>?_,λh=>?_⟩
  ·obtain⟨d,hd,rfl⟩:=BD.1 h;rw[FC]at hd;exact chD_isD (q12 (by omega) n d hd)
  ·obtain⟨l,d,hl⟩:∃l d,dg 10 n=l++[d]:=⟨_,_,(List.dropLast_concat_getLast hne).symm⟩;have hd:=dg_last (by omega) hl;have hdb:d<10:=q12 (by omega) n d (by rw[hl];simp);rw[hl]at h;simp only[EB,List.reverse_singleton,BM,AQ,DT,AH]at h;have:=congrArg UInt8.toNat h;rw[qel hdb]at this;have h48:(48:UInt8).toNat=48:=rfl;omega
theorem q6o(n:Nat):vD (ql n)=n:=by
 unfold ql;split
 ·rename_i h;rw[h];rfl
 ·rw[vD_vl,Cu,<- List.map_reverse,FS];have:(dg 10 n).map ((λc:UInt8=>c.toNat-48) ∘ chD)=dg 10 n:=by
   conv=>rhs;rw[<- Et (dg 10 n)]
   refine CQ λd hd=>?_;show(chD d).toNat-48=d;rw[qel (q12 (by omega) n d hd)];omega
  rw[this,q22 (by omega)]
theorem qib{m n:Nat}(h:ql m=ql n):m=n:=by rw[<- q6o m,h,q6o]
end Rf
end
section
namespace Rf
theorem qhp{b x k:Nat}(hb:2<=b)(h:x<2^k):(dg b x).length<=k :=
 q5i hb (AP h (EE hb k))
theorem q9i{x k:Nat}(h:x<2^k):(ql x).length<=k+1:=by
 unfold ql;split
 ·simp
 ·have:=qhp (b:=10) (by omega) h;simp;omega
theorem pow_le16(n:Nat):10^n<=2^(4*n):=by
 rw[Nat.pow_mul];exact EE (by omega) n
theorem vD_lt2{s:List UInt8}(h:∀c,c∈s->isD c=true):vD s<2^(4*s.length):=AP (vD_lt h) (pow_le16 _)
theorem qid{n:Nat}:n<2^(4*(ql n).length):=by
 have:=vD_lt2 (q6n n).2.1;rwa[q6o]at this
theorem qg3(n:Nat):1<=(ql n).length:=by
 have:=(q6n n).1;have:=Db.2 this;omega
def qu(z:Int):List UInt8:=if z<0 then 45::ql z.natAbs else ql z.natAbs
def qx(r:Rat):List UInt8:=if r.den=1 then qu r.num else qu r.num++47::ql r.den
theorem isD_47:isD 47=false:=by decide
theorem isD_45:isD 45=false:=by decide
theorem qg4{c:UInt8}(hc:isD c=false){l:List UInt8}(h:canon l):c ∉ l:=λq=>by
 have:=h.2.1 c q;rw[hc]at this;cases this
theorem qhu{t:List UInt8}:¬ canon (45::t):=λh=>qg4 isD_45 h (by simp)
theorem q9k(z:Int):(47:UInt8) ∉ qu z:=by
 have:=qg4 isD_47 (q6n z.natAbs);unfold qu;split
 ·simp only[Ar,not_or];exact⟨by decide,this⟩
 ·exact this
theorem qdl{a b:Int}(h:qu a=qu b):a=b:=by
 have h45:∀n t,(45:UInt8)::t≠ql n:=λn t q=>qhu (q▸q6n n);unfold qu at h;split at h <;> split at h
 ·have:=qib (List.cons.inj h).2;omega
 ·exact absurd h (h45 _ _)
 ·exact absurd h.symm (h45 _ _)
 ·have:=qib h;omega
open Classical in
noncomputable def pz(l:List UInt8):Option Int:=if h:∃z,l=qu z then some h.choose else none
theorem q4q{l:List UInt8}{z:Int}:pz l=some z↔l=qu z:=by
 unfold pz;constructor
 ·intro h;split at h
  ·rename_i hz;cases h;exact hz.choose_spec
  ·cases h
 ·intro h;have hz:∃z,l=qu z:=⟨z,h⟩;rw[BY hz];congr 1;exact qdl (hz.choose_spec.symm.trans h)
theorem pz_none{l:List UInt8}:pz l=none↔∀z,l≠qu z:=by
 constructor
 ·intro h z q;rw[q4q.2 q]at h;cases h
 ·intro h;unfold pz;rw[Cg (λ⟨z,q⟩=>h z q)]
theorem pz_neg{t:List UInt8}(hc:canon t)(h0:vD t≠0):pz (45::t)=some (-(vD t:Int)):=by
 rw[q4q];unfold qu;rw[if_pos (by omega)];congr 1;rw[BA,CC,qnl hc]
theorem pz_pos{l:List UInt8}(hc:canon l):pz l=some (vD l:Int):=by
 rw[q4q];unfold qu;rw[if_neg (by omega),CC,qnl hc]
theorem qaj{l:List UInt8}{z:Int}(h:pz l=some z):z.natAbs<2^(4*l.length):=by
 rw[q4q]at h;subst h;unfold qu;split
 ·exact AP qid (AX (by omega) (by simp;omega))
 ·exact qid
def cutA(l:List UInt8):List UInt8:=l.takeWhile (· !=47)
def cutB(l:List UInt8):List UInt8:=(l.dropWhile (· !=47)).tail
theorem qes{l:List UInt8}(h:47 ∉ l):cutA l=l/\cutB l=[]:=by
 have hp:∀x,x∈l->(x !=47)=true:=λx hx=>by
  simp only[CG,ne_eq];intro q;exact h (q▸hx)
 unfold cutA cutB;have e1:l.takeWhile (· !=47)=l:=by
  clear h
  induction l with
  |nil=>rfl
  |cons a l ih=>rw[DV,hp a (by simp)];simp only[AW];rw[ih λx hx=>hp x (by simp[hx])]
 have e2:l.dropWhile (· !=47)=[]:=by
  clear h e1
  induction l with
  |nil=>rfl
  |cons a l ih=>rw[DW,hp a (by simp)];simp only[AW];rw[ih λx hx=>hp x (by simp[hx])]
 exact⟨e1,by rw[e2];rfl⟩
theorem qdn{a b:List UInt8}(h:47 ∉ a):cutA (a++47::b)=a/\cutB (a++47::b)=b:=by
 unfold cutA cutB
 induction a with
 |nil=>exact⟨rfl,rfl⟩
 |cons x a ih =>
  simp only[Ar,not_or]at h;obtain⟨i1,i2⟩:=ih h.2;have hx:(x !=47)=true:=by
   simp only[CG,ne_eq];exact λq=>h.1 q.symm
  simp only[Al,DV,DW,hx,AW];exact⟨by rw[i1],i2⟩
theorem qdm{l:List UInt8}(h:47∈l):l=cutA l++47::cutB l:=by
 unfold cutA cutB
 induction l with
 |nil=>simp at h
 |cons x l ih =>
  by_cases hx:x=47
  ·subst hx;rfl
  ·have hb:(x !=47)=true:=by simpa using hx
   have:47∈l:=by
    rcases Ar.1 h with h | h
    ·exact absurd h.symm hx
    ·exact h
   simp only[DV,DW,hb,AW,Al];rw[<- ih this]
theorem cutA_no(l:List UInt8):47 ∉ cutA l:=by
 unfold cutA
 induction l with
 |nil=>simp
 |cons x l ih =>
  rw[DV];split
  ·rename_i h;have hx:x≠47:=by simpa using h
   simp only[Ar,not_or];exact⟨λq=>hx q.symm,ih⟩
  ·simp
theorem cut_len(l:List UInt8):(cutA l).length<=l.length/\(cutB l).length<=l.length:=by
 by_cases h:47∈l
 ·have:=congrArg List.length (qdm h);simp at this;omega
 ·obtain⟨h1,h2⟩:=qes h;rw[h1,h2];simp
theorem qnp(r:Rat):47∈qx r↔r.den≠1:=by
 unfold qx;split
 ·rename_i h;simp[h,q9k]
 ·rename_i h;simp[h]
theorem rtext_inj{a b:Rat}(h:qx a=qx b):a=b:=by
 have hd:a.den=1↔b.den=1:=by
  have h1:=qnp a;have h2:=qnp b;rw[h]at h1;by_cases q:a.den=1 <;> by_cases q':b.den=1 <;> simp_all
 unfold qx at h;by_cases q:a.den=1
 ·have q':=hd.1 q;rw[if_pos q,if_pos q']at h;exact Rat.ext (qdl h) (q.trans q'.symm)
 ·have q':¬ b.den=1:=λh=>q (hd.2 h);rw[if_neg q,if_neg q']at h;obtain⟨a1,a2⟩:=qdn (b:=ql a.den) (q9k a.num);obtain⟨b1,b2⟩:=qdn (b:=ql b.den) (q9k b.num);rw[h]at a1 a2;exact Rat.ext (qdl (a1.symm.trans b1)) (qib (a2.symm.trans b2))
open Classical in
noncomputable def pr(l:List UInt8):Option Rat:=if h:∃r,l=qx r then some h.choose else none
theorem q9j{l:List UInt8}{r:Rat}:pr l=some r↔l=qx r:=by
 unfold pr;constructor
 ·intro h;split at h
  ·rename_i hz;cases h;exact hz.choose_spec
  ·cases h
 ·intro h;have hz:∃z,l=qx z:=⟨r,h⟩;rw[BY hz];congr 1;exact rtext_inj (hz.choose_spec.symm.trans h)
theorem pr_none{l:List UInt8}:pr l=none↔∀r,l≠qx r:=by
 constructor
 ·intro h z q;rw[q9j.2 q]at h;cases h
 ·intro h;unfold pr;rw[Cg (λ⟨z,q⟩=>h z q)]
def Bd(k:Nat)(r:Rat):Prop:=r.num.natAbs<2^k/\r.den<2^k
theorem Bd.mono{k m:Nat}{r:Rat}(h:Bd k r)(hkm:k<=m):Bd m r :=
 ⟨AP h.1 (AX (by omega) hkm),AP h.2 (AX (by omega) hkm)⟩
theorem qdo(a b:Int)(hb:b≠0):(Rat.divInt a b).num.natAbs<=a.natAbs/\(Rat.divInt a b).den<=b.natAbs:=by
 have hg:(b.gcd a:Int) ∣ a:=Int.gcd_dvd_right _ _;have hg0:0<b.gcd a:=Int.gcd_pos_of_ne_zero_left _ hb;constructor
 ·rw[Rat.num_divInt,Int.mul_ediv_assoc _ hg,Cd];have h1:b.sign.natAbs=1:=by
   rcases EX hb with h | h
   ·rw[CO h];rfl
   ·rw[Cl h];rfl
  rw[h1,Cf,Int.natAbs_ediv_of_dvd hg,CC];exact Ds _ _
 ·rw[Rat.den_divInt,if_neg hb];exact Ds _ _
theorem qfz(r s:Rat):r+s=Rat.divInt (r.num*s.den+s.num*r.den) (r.den*s.den):=by
 have hr:(r.den:Int)≠0:=by have:=r.den_nz;omega
 have hs:(s.den:Int)≠0:=by have:=s.den_nz;omega
 rw[<- Rat.divInt_add_divInt _ _ hr hs,Cp,Cp]
theorem qvd(r s:Rat):r-s=Rat.divInt (r.num*s.den-s.num*r.den) (r.den*s.den):=by
 have hr:(r.den:Int)≠0:=by have:=r.den_nz;omega
 have hs:(s.den:Int)≠0:=by have:=s.den_nz;omega
 rw[<- Rat.divInt_sub_divInt _ _ hr hs,Cp,Cp]
theorem qfy(r s:Rat):r*s=Rat.divInt (r.num*s.num) (r.den*s.den):=by
 rw[<- Rat.divInt_mul_divInt,Cp,Cp]
theorem q9h(r s:Rat):((r.den:Int)*(s.den:Int))≠0:=by
 have hr:(r.den:Int)≠0:=by have:=r.den_nz;omega
 have hs:(s.den:Int)≠0:=by have:=s.den_nz;omega
 exact Int.mul_ne_zero hr hs
theorem qnq(r s:Rat):((r.den:Int)*(s.den:Int)).natAbs=r.den*s.den:=by rw[Cd];rfl
theorem q4p{a b k m:Nat}(h:a<2^k)(h':b<2^m):a*b<2^(k+m):=by
 rw[BZ];exact Nat.mul_lt_mul'' h h'
theorem Bd.mul{k m:Nat}{r s:Rat}(h:Bd k r)(h':Bd m s):Bd (k+m) (r*s):=by
 rw[qfy];obtain⟨h1,h2⟩:=qdo (r.num*s.num) (r.den*s.den) (q9h r s);rw[Cd]at h1;rw[qnq]at h2;exact⟨BG h1 (q4p h.1 h'.1),BG h2 (q4p h.2 h'.2)⟩
theorem qmy{k m:Nat}{r s:Rat}(h:Bd k r)(h':Bd m s):(r.num*s.den).natAbs<2^(k+m)/\(s.num*r.den).natAbs<2^(k+m):=by
 rw[Cd,Cd,CC,CC];exact⟨q4p h.1 h'.2,by rw[Bo k];exact q4p h'.1 h.2⟩
theorem Bd.add{k m:Nat}{r s:Rat}(h:Bd k r)(h':Bd m s):Bd (k+m+1) (r+s):=by
 rw[qfz];obtain⟨h1,h2⟩:=qdo (r.num*s.den+s.num*r.den) (r.den*s.den) (q9h r s);rw[qnq]at h2;obtain⟨c1,c2⟩:=qmy h h';have:=q4p h.2 h'.2;rw[Bd,Ax];constructor <;> omega
theorem Bd.neg{k:Nat}{r:Rat}(h:Bd k r):Bd k (-r):=by
 refine⟨?_,h.2⟩;show(-r.num).natAbs<_;rw[BA];exact h.1
theorem Bd.sub{k m:Nat}{r s:Rat}(h:Bd k r)(h':Bd m s):Bd (k+m+1) (r-s):=by
 rw[Rat.sub_eq_add_neg];exact h.add h'.neg
theorem Bd.int{k:Nat}{z:Int}(h:z.natAbs<2^k)(hk:1<=k):Bd k (z:Rat):=by
 refine⟨h,?_⟩;show 1<2^k;exact EH (by omega)
theorem qg1{z:Int}{k:Nat}(h:z.natAbs<2^k):(qu z).length<=k+2:=by
 have:=q9i h;unfold qu;split <;> simp <;> omega
theorem Bd.len{k:Nat}{r:Rat}(h:Bd k r):(qx r).length<=2*k+4:=by
 have h1:=qg1 h.1;have h2:=q9i h.2;unfold qx;split
 ·omega
 ·simp;omega
theorem Bd.of{r:Rat}:Bd (4*(qx r).length) r:=by
 have hz:r.num.natAbs<2^(4*(qu r.num).length):=qaj (q4q.2 rfl);have hp:1<=(qu r.num).length:=by
  have:=qg3 r.num.natAbs;unfold qu;split <;> simp <;> omega
 unfold qx;split
 ·rename_i h;exact⟨hz,by rw[h];exact EH (by omega)⟩
 ·refine⟨AP hz (AX (by omega) (by simp;omega)),AP qid (AX (by omega) (by simp;omega))⟩
theorem qad{l:List UInt8}{r:Rat}(h:pr l=some r):Bd (4*l.length) r:=by
 rw[q9j]at h;subst h;exact Bd.of
end Rf
end
namespace Rf
open Go
section
def txt(l:List UInt8):ByteArray:=⟨l.toArray⟩
def dgts:List UInt8:=[48,49,50,51,52,53,54,55,56,57]
def q8j(l cs:List UInt8):List UInt8:=((l.reverse.dropWhile (cs.contains ·)).reverse).dropWhile (cs.contains ·)
def cloneExt:List FV->Option (List FV)
 |[.list 1 xs]=>if xs≠[]/\xs.length<=1099511627776/\xs.all (λx=>match x with | .int .u32 _=>true | _=>false)=true then some [.list 1 xs]else none
 |_=>none
def formatExt:List FV->Option (List FV)
 |[.int .u64 n,.int .i64 b]=>if 0<=n/\n<1000000000000/\b=10 then some [.str (txt (ql n.toNat))]else none
 |_=>none
def repeatExt:List FV->Option (List FV)
 |[.str s,.int .i64 k]=>if s.data.toList=[48]/\0<=k/\k<=9 then some [.str (txt (List.replicate k.toNat 48))]else none
 |_=>none
def byts:FV->List UInt8
 |.str s=>s.data.toList
 |_=>[]
def q6l:FV->Bool
 |.str _=>true
 |_=>false
def joinExt:List FV->Option (List FV)
 |[.list 1 xs,.str sep]=>if sep.data.toList=[]/\xs.all q6l=true/\xs.length<=1099511627776/\((xs.map byts).flatten).length<=1099511627776 then some [.str (txt ((xs.map byts).flatten))]else none
 |_=>none
def trimExt:List FV->Option (List FV)
 |[.str s,.str c]=>if c.data.toList=dgts/\s.data.toList.length<=1099511627776 then some [.str (txt (q8j s.data.toList dgts))]else none
 |_=>none
def parseExt:List FV->Option (List FV)
 |[.str s,.int .i64 b,.int .i64 z]=>if s.data.toList≠[]/\s.data.toList.length<=9/\s.data.toList.all isD=true/\b=10/\z=32 then some [.int .u64 (vD s.data.toList:Int),.raw .nilIface]else none
 |_=>none
def ixB:List UInt8->UInt8->Int
 |[],_=>-1
 |b::l,c=>if b==c then 0 else if ixB l c==-1 then -1 else ixB l c+1
def idxExt:List FV->Option (List FV)
 |[.str s,.int .u8 c]=>some [.int .i64 (ixB s.data.toList c.toNat.toUInt8)]
 |_=>none
def extT:Nat->Option (List FV->Option (List FV)):=λf=>lookN f [(230,cloneExt),(206,formatExt),(207,repeatExt),(209,joinExt),(248,trimExt),(249,parseExt),(262,idxExt)]
end
section
def Ev(E:Env)(f:FuncId)(L R:List FV):Prop:=∃n0,∀n,n0<=n->evF E n f L=some R
theorem Ev.of{E:Env}{f:FuncId}{L R:List FV}(n0:Nat)(h:∀n,n0<=n->evF E (n+1) f L=some R):Ev E f L R :=
 ⟨n0+1,λn hn=>by
  obtain⟨k,rfl⟩:∃k,n=k+1:=⟨n-1,by omega⟩
  exact h k (by omega)⟩
theorem Ev.run{E:Env}{f:FuncId}{L R:List FV}(h:Ev E f L R):∃n,evF E n f L=some R:=let ⟨n,hn⟩:=h;⟨n,hn n (Ak _)⟩
theorem wrap_u32(x:Nat):IntKind.wrap .u32 (x:Int)=((x%4294967296:Nat):Int):=by
 unfold IntKind.wrap;simp[IntKind.bits,IntKind.signed]
theorem wrap_u64(x:Nat):IntKind.wrap .u64 (x:Int)=((x%18446744073709551616:Nat):Int):=by
 unfold IntKind.wrap;simp[IntKind.bits,IntKind.signed]
theorem q6q{x:Nat}(h:x<4294967296:=by omega):IntKind.wrap .u32 (x:Int)=(x:Int):=by rw[wrap_u32,AK h]
theorem q1b{x:Nat}(h:x<18446744073709551616:=by omega):IntKind.wrap .u64 (x:Int)=(x:Int):=by rw[wrap_u64,AK h]
theorem q40{x:Nat}(h:x<9223372036854775808:=by omega):w6 (x:Int)=(x:Int):=qk
theorem qg8(x y:Nat):(x:Int)+(y:Int)=((x+y:Nat):Int):=rfl
theorem qk3(x y:Nat):(x:Int)*(y:Int)=((x*y:Nat):Int):=rfl
theorem q7j{x y:Nat}(h:x+y<18446744073709551616:=by omega):IntKind.wrap .u64 ((x:Int)+(y:Int))=((x+y:Nat):Int):=by rw[qg8,q1b h]
theorem qbb{x y:Nat}(h:x*y<18446744073709551616:=by omega):IntKind.wrap .u64 ((x:Int)*(y:Int))=((x*y:Nat):Int):=by rw[qk3,q1b h]
theorem q2n{x y:Nat}(h:x+y<9223372036854775808:=by omega):w6 ((x:Int)+(y:Int))=((x+y:Nat):Int):=by rw[qg8,q40 h]
theorem qba{x y:Nat}(h:x*y<9223372036854775808:=by omega):w6 ((x:Int)*(y:Int))=((x*y:Nat):Int):=by rw[qk3,q40 h]
theorem qbm(k:IntKind)(x s:Nat)(hs:s<=k.bits):shI false k (x:Int) (s:Int)=((x / 2^s:Nat):Int):=by
 unfold shI;rw[Ab,Bh,EZ hs,Int.fdiv_eq_ediv_of_nonneg _ (by exact Int.le_of_lt (Int.pow_pos (by omega)))];have:(2:Int)^s=((2^s:Nat):Int):=by simp
 rw[this];rfl
theorem qal(k:IntKind)(x s:Nat)(hs:s<=k.bits):shI true k (x:Int) (s:Int)=k.wrap ((x*2^s:Nat):Int):=by
 unfold shI;rw[Ac,Bh,EZ hs];congr 1
theorem qdv{w x:Nat}(h:x<2^w):(BitVec.ofInt w (x:Int)).toNat=x:=by
 rw[BitVec.toNat_ofInt];have:((x:Int)%(2^w:Nat)).toNat=x:=by
  rw[Int.emod_eq_of_lt (by omega) (by exact_mod_cast h),Bh]
 simpa using this
theorem qbn{x y:Nat}(hx:x<18446744073709551616:=by omega)(hy:y<18446744073709551616:=by omega):bitI .or .u64 (x:Int) (y:Int)=((x ||| y:Nat):Int):=by
 have h:x ||| y<2^64:=Nat.or_lt_two_pow hx hy
 show IntKind.wrap .u64 (((BitVec.ofInt 64 (x:Int) ||| BitVec.ofInt 64 (y:Int)).toNat:Nat):Int)=_;rw[BitVec.toNat_or,qdv hx,qdv hy,q1b h]
theorem or_u32{x y:Nat}(hx:x<4294967296)(hy:y<4294967296):bitI .or .u32 (x:Int) (y:Int)=((x ||| y:Nat):Int):=by
 have h:x ||| y<2^32:=Nat.or_lt_two_pow hx hy
 show IntKind.wrap .u32 (((BitVec.ofInt 32 (x:Int) ||| BitVec.ofInt 32 (y:Int)).toNat:Nat):Int)=_;rw[BitVec.toNat_or,qdv hx,qdv hy,q6q h]
theorem qdw{x y s:Nat}(hy:y<2^s:=by omega):x*2^s ||| y=x*2^s+y:=by
 rw[AC,Nat.two_pow_add_eq_or_of_lt hy]
abbrev d32(d:Nat):FV:=.int .u32 (d:Int)
abbrev d64(d:Nat):FV:=.int .i64 (d:Int)
abbrev L32(l:List Nat):FV:=.list 1 (l.map d32)
abbrev L64(l:List Nat):FV:=.list 1 (l.map d64)
theorem q3t{l:List Nat}{i:Nat}(h:i<l.length):at' (l.map d32) i 0=some (.int .u32 (l[i]:Int)):=by rw[q2a,Ag h];rfl
theorem q6d{l:List Nat}{i:Nat}(h:i<l.length):at' (l.map d64) i 0=some (.int .i64 (l[i]:Int)):=by rw[q2a,Ag h];rfl
theorem bit_and(A B:BitVec 32):bitI .and .u32 (A.toNat:Int) (B.toNat:Int)=((A &&& B).toNat:Int):=by
 show IntKind.wrap .u32 (((BitVec.ofInt 32 (A.toNat:Int) &&& BitVec.ofInt 32 (B.toNat:Int)).toNat:Nat):Int)=_;rw[Dv,Dv,Dw,Dw,Dx,Dx,q6q (A &&& B).isLt]
theorem bit_or(A B:BitVec 32):bitI .or .u32 (A.toNat:Int) (B.toNat:Int)=((A ||| B).toNat:Int):=by
 show IntKind.wrap .u32 (((BitVec.ofInt 32 (A.toNat:Int) ||| BitVec.ofInt 32 (B.toNat:Int)).toNat:Nat):Int)=_;rw[Dv,Dv,Dw,Dw,Dx,Dx,q6q (A ||| B).isLt]
theorem bit_xor(A B:BitVec 32):bitI .xor .u32 (A.toNat:Int) (B.toNat:Int)=((A ^^^ B).toNat:Int):=by
 show IntKind.wrap .u32 (((BitVec.ofInt 32 (A.toNat:Int) ^^^ BitVec.ofInt 32 (B.toNat:Int)).toNat:Nat):Int)=_;rw[Dv,Dv,Dw,Dw,Dx,Dx,q6q (A ^^^ B).isLt]
theorem bit_not(A:BitVec 32):bitI .xor .u32 (4294967295:Int) (A.toNat:Int)=((~~~A).toNat:Int):=by
 have h:=bit_xor (BitVec.allOnes 32) A;rw[show((BitVec.allOnes 32).toNat:Int)=4294967295 from rfl,BitVec.allOnes_xor]at h;exact h
theorem top_bit(A:BitVec 32):A.toNat / 2^31=if A.msb then 1 else 0:=by
 have h:=A.isLt;rw[Ep];simp only[Nat.reduceSub,As];split <;> omega
theorem qq9{x y br:Nat}(hx:x<4294967296)(hy:y<4294967296)(hb:br<=1) :
  shI false .u32 (bitI .or .u32 (bitI .and .u32 (bitI .xor .u32 4294967295 (x:Int)) (y:Int)) (bitI .and .u32 (bitI .xor .u32 4294967295 (bitI .xor .u32 (x:Int) (y:Int))) (((4294967296+x-y-br)%4294967296:Nat):Int))) 31 =
   ((if x<y+br then 1 else 0:Nat):Int):=by
 obtain⟨X,hX⟩:∃X:BitVec 32,X.toNat=x:=⟨BitVec.ofNat 32 x,by simp;omega⟩;obtain⟨Y,hY⟩:∃X:BitVec 32,X.toNat=y:=⟨BitVec.ofNat 32 y,by simp;omega⟩;obtain⟨D,hD⟩:∃X:BitVec 32,X.toNat=(4294967296+x-y-br)%4294967296:=⟨BitVec.ofNat 32 (4294967296+x-y-br),by simp⟩;rw[<- hX,<- hY]at *
 rw[<- hD,bit_not,bit_and,bit_xor,bit_not,bit_and,bit_or];have:=qbm .u32 ((~~~X &&& Y ||| ~~~(X ^^^ Y) &&& D).toNat) 31 (by decide);rw[show((31:Nat):Int)=31 from rfl]at this;rw[this,top_bit,BitVec.msb_or,BitVec.msb_and,BitVec.msb_and,BitVec.msb_not,BitVec.msb_not,BitVec.msb_xor];have mX:X.msb=decide (2147483648<=X.toNat):=by rw[Ep]
 have mY:Y.msb=decide (2147483648<=Y.toNat):=by rw[Ep]
 have mD:D.msb=decide (2147483648<=D.toNat):=by rw[Ep]
 rw[mX,mY,mD,hD];congr 1;by_cases a1:2147483648<=X.toNat <;> by_cases a2:2147483648<=Y.toNat <;> by_cases a3:2147483648<=(4294967296+X.toNat-Y.toNat-br)%4294967296 <;> simp[a1,a2,a3] <;> omega
end
section
theorem q7s(l:List UInt8):(txt l).data.toList=l:=by simp[txt]
theorem qbp(s:ByteArray):txt s.data.toList=s:=rfl
theorem q1c(l:List UInt8):(txt l).size=l.length:=by simp[txt,ByteArray.size]
theorem txt_inj{a b:List UInt8}(h:txt a=txt b):a=b:=by rw[<- q7s a,h,q7s]
theorem txt_eq{a b:List UInt8}:txt a=txt b↔a=b:=⟨txt_inj,λh=>by rw[h]⟩
theorem q5m(a b:List UInt8):txt a++txt b=txt (a++b):=by
 apply ByteArray.ext;rw[ByteArray.data_append];simp[txt]
theorem q5n(l:List UInt8)(i j:Nat):(txt l).extract i j=txt ((l.take j).drop i):=by
 apply ByteArray.ext;rw[ByteArray.data_extract];apply De;rw[List.drop_take];simp[txt]
theorem q4g(l:List UInt8)(i:Nat):q2q (txt l) (i:Int)=(l[i]?).map λb=>(b.toNat:Int):=by
 unfold q2q;rw[if_pos (by omega),Bh];congr 1;by_cases h:i<l.length
 ·rw[Ag h,getElem?_pos _ _ (by rw[q1c];exact h)];rfl
 ·rw[DE (by omega),getElem?_neg _ _ (by rw[q1c];exact h)]
theorem q3d(a b:List UInt8):((txt a).toList==(txt b).toList)=decide (a=b):=by
 rw[toList_eq];simp[txt_eq]
abbrev sF(l:List UInt8):FV:=.str (txt l)
theorem q8s{P:List (List UInt8)}{i:Nat}(h:i<P.length):at' (P.map sF) i 0=some (.str (txt P[i])):=by rw[q2a,Ag h];rfl
end
end Rf
