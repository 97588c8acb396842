/- Merged: Dig Rt Ext Wrd Txt RfEnv RfEnvOk. -/
import Derived.Calls
import Derived.Test.YtcpnpoagpnkblaaGreatDoorNMA
import Derived.Test.YtcpnpoagpnkblaaGreatDoorNMC
import Derived.Test.YtcpnpoagpnkblaaGreatDoorProg
import Derived.Test.YtcpnpoagpnkblaaGreatDoorChecked
import Derived.KernelRfl
set_option linter.unusedVariables false
set_option linter.unusedSimpArgs false
section
namespace Rf
def vl(b:Nat):List Nat->Nat
 |[]=>0
 |d::l=>d+b*vl b l
def dg(b:Nat)(n:Nat):List Nat :=
 if h:n=0\/b<2 then []else n%b::dg b (n / b)
termination_by n
decreasing_by
 have h1:0<n:=by omega
 exact Cv h1 (by omega)
def tz:List Nat->List Nat
 |[]=>[]
 |d::l=>if d=0/\tz l=[]then []else d::tz l
def Dg(b:Nat)(l:List Nat):Prop:=∀d,d∈l->d<b
theorem q17(b:Nat):dg b 0=[]:=by rw[dg];simp
theorem q3c{b n:Nat}(hb:2<=b:=by omega)(hn:n≠0:=by omega):dg b n=n%b::dg b (n / b):=by
 rw[dg,Cf (by omega)]
theorem q1x{b:Nat}(hb:2<=b)(n:Nat):vl b (dg b n)=n:=by
 induction n using Nat.strongRecOn with
 |_ n ih =>
  by_cases hn:n=0
  ·subst hn;rw[q17];rfl
  ·rw[q3c hb hn,vl,ih (n / b) (Cv (by omega) (by omega))];exact Cr n b
theorem q10{b:Nat}(hb:2<=b)(n:Nat):Dg b (dg b n):=by
 induction n using Nat.strongRecOn with
 |_ n ih =>
  by_cases hn:n=0
  ·subst hn;rw[q17];intro d h;cases h
  ·rw[q3c hb hn];intro d h;rcases Ar.1 h with rfl | h
   ·exact AM _ (by omega)
   ·exact ih (n / b) (Cv (by omega) (by omega)) d h
theorem q4t{b:Nat}(hb:2<=b){n:Nat}:dg b n=[]↔n=0:=by
 constructor
 ·intro h;by_cases hn:n=0
  ·exact hn
  ·rw[q3c hb hn]at h;cases h
 ·rintro rfl;exact q17 b
theorem Dg.tail{b d:Nat}{l:List Nat}(h:Dg b (d::l)):d<b/\Dg b l:=⟨h d (by simp),λx hx=>h x (by simp[hx])⟩
theorem Dg.cons{b d:Nat}{l:List Nat}(hd:d<b)(h:Dg b l):Dg b (d::l):=λx hx=>by
 rcases Ar.1 hx with rfl | hx
 ·exact hd
 ·exact h x hx
theorem Dg.app{b:Nat}{l m:List Nat}(h:Dg b l)(h':Dg b m):Dg b (l++m):=λx hx=>by
 rcases BD.1 hx with hx | hx
 ·exact h x hx
 ·exact h' x hx
theorem q31{b:Nat}(hb:2<=b):∀ {l:List Nat},Dg b l->dg b (vl b l)=tz l
 |[],_=>q17 b
 |d::l,h=>by
  obtain⟨hd,hl⟩:=h.tail;have ih:=q31 hb hl;simp only[vl,tz];by_cases h0:d+b*vl b l=0
  ·have h1:d=0:=by omega
   have h2:vl b l=0:=by
    have:b*vl b l=0:=by omega
    rcases Nat.mul_eq_zero.1 this with h | h
    ·omega
    ·exact h
   rw[h0,q17,if_pos ⟨h1,by rw[<- ih,h2,q17]⟩]
  ·rw[q3c hb h0,Du,AL hd,Fo _ _ (by omega),CS hd,AG,ih,if_neg];rintro⟨h1,h2⟩;rw[<- ih]at h2;have:=(q4t hb).1 h2;rw[h1,this]at h0;exact h0 (by simp)
theorem q62(b:Nat):∀(l m:List Nat),vl b (l++m)=vl b l+b^l.length*vl b m
 |[],m=>by simp[vl]
 |d::l,m=>by
  simp only[Al,vl,q62 b l m,Aq,Ax];rw[AF,AB (b^l.length) b,AV];omega
theorem q4e{b:Nat}(hb:1<=b):∀ {l:List Nat},Dg b l->vl b l<b^l.length
 |[],_=>by simp[vl]
 |d::l,h=>by
  obtain⟨hd,hl⟩:=h.tail;have ih:=q4e hb hl;simp only[vl,Aq,Ax];have:b*vl b l+b<=b*b^l.length:=by
   rw[<- Cl];exact BE b ih
  rw[AB (b^l.length) b];omega
theorem tz_dg{b:Nat}(hb:2<=b)(n:Nat):tz (dg b n)=dg b n:=by
 rw[<- q31 hb (q10 hb n),q1x hb]
theorem qcg:∀(l:List Nat),tz (l++[0])=tz l
 |[]=>rfl
 |d::l=>by simp only[Al,tz,qcg l]
theorem qch{d:Nat}(hd:d≠0):∀(l:List Nat),tz (l++[d])=l++[d]
 |[]=>by simp[tz,hd]
 |x::l=>by
  simp only[Al,tz,qch hd l];rw[if_neg (by simp)]
theorem tz_len:∀(l:List Nat),(tz l).length<=l.length
 |[]=>Ak _
 |d::l=>by
  simp only[tz];have:=tz_len l;split
  ·simp
  ·simp;exact this
theorem dg_last{b:Nat}(hb:2<=b){n:Nat}{l:List Nat}{d:Nat}(h:dg b n=l++[d]):d≠0:=by
 intro h0;have h1:=tz_dg hb n;rw[h,h0,qcg]at h1;have:=tz_len l;have:=congrArg List.length h1;simp at this;omega
theorem q59{b:Nat}(hb:2<=b){n k:Nat}(h:n<b^k):(dg b n).length<=k:=by
 induction k generalizing n with
 |zero =>
      have:n=0:=by simpa using h
      subst this;rw[q17];exact BL _
 |succ k ih =>
  by_cases hn:n=0
  ·subst hn;rw[q17];exact BL _
  ·rw[q3c hb hn,Aq];have:n / b<b^k:=by
    rw[BO (by omega)];rw[Ax]at h;exact h
   have:=ih this;omega
theorem q8y{b:Nat}(hb:2<=b)(n:Nat):n<b^(dg b n).length:=by
 have:=q4e (b:=b) (by omega) (q10 hb n);rwa[q1x hb]at this
theorem pow_le_dg{b:Nat}(hb:2<=b){n:Nat}(hn:n≠0):b^((dg b n).length-1)<=n:=by
 induction n using Nat.strongRecOn with
 |_ n ih =>
  rw[q3c hb hn,Aq,EB];by_cases h0:n / b=0
  ·rw[h0,q17];simp;omega
  ·have h1:=ih (n / b) (Cv (by omega) (by omega)) h0;have h2:(dg b (n / b)).length≠0:=λh=>h0 ((q4t hb).1 (De.1 h));have:b^(dg b (n / b)).length=b^((dg b (n / b)).length-1)*b:=by
    rw[<- Ax];congr 1;omega
   rw[this];exact Bb (AT b h1) (Ex n b)
theorem q9x{b:Nat}(hb:2<=b){m n:Nat}(h:(dg b m).length<(dg b n).length):m<n:=by
 have hn:n≠0:=λh0=>by subst h0;rw[q17]at h;cases h
 have h1:=q8y hb m;have h2:=pow_le_dg hb hn;have h3:b^(dg b m).length<=b^((dg b n).length-1):=AW (by omega) (by omega);omega
theorem q9u(b:Nat)(l:List Nat)(d:Nat):vl b (l++[d])=vl b l+b^l.length*d:=by
 rw[q62];simp[vl]
theorem qcj{b:Nat}(hb:1<=b){l m:List Nat}{x y:Nat}(h:Dg b l)(h':Dg b m)(hlen:l.length=m.length)(hxy:x<y)(r:List Nat):vl b (l++x::r)<vl b (m++y::r):=by
 rw[q62,q62];simp only[vl];have h1:=q4e hb h;rw[hlen]at h1 ⊢;have h2:b^m.length*x+b^m.length<=b^m.length*y:=by
  rw[<- Cl];exact BE _ hxy
 rw[AF,AF];omega
def addL(B:Nat):List Nat->List Nat->Nat->List Nat
 |[],_,c=>[c]
 |x::a,b,c=>((c+x+b.headD 0)%B)::addL B a b.tail ((c+x+b.headD 0) / B)
theorem vl_head(B:Nat)(b:List Nat):vl B b=b.headD 0+B*vl B b.tail:=by
 cases b with
 |nil=>simp[vl]
 |cons x b=>rfl
theorem Dg.headD{B:Nat}(hB:0<B){b:List Nat}(h:Dg B b):b.headD 0<B:=by
 cases b with
 |nil=>simpa using hB
 |cons x b=>exact h x (by simp)
theorem Dg.tl{B:Nat}{b:List Nat}(h:Dg B b):Dg B b.tail:=λx hx=>h x (List.mem_of_mem_tail hx)
theorem qes{B:Nat}:∀(a b:List Nat) (c:Nat),b.length<=a.length->vl B (addL B a b c)=vl B a+vl B b+c
 |[],b,c,h=>by
  have:b=[]:=BH (by simpa using h);subst this;simp[addL,vl]
 |x::a,b,c,h=>by
  have ih:=qes (B:=B) a b.tail ((c+x+b.headD 0) / B) (by rw[List.length_tail];simp at h;omega);simp only[addL,vl,ih];have h1:=vl_head B b;have h2:=Cr (c+x+b.headD 0) B;rw[AF,AF];omega
theorem qer{B:Nat}(hB:2<=B):∀(a b:List Nat) (c:Nat),Dg B a->Dg B b->c<=1->Dg B (addL B a b c)
 |[],_,c,_,_,hc=>by
  intro d hd;simp only[addL,BK]at hd;omega
 |x::a,b,c,ha,hb,hc=>by
  obtain⟨hx,ha'⟩:=ha.tail;have hy:=hb.headD (by omega);refine Dg.cons (AM _ (by omega)) (qer hB a b.tail _ ha' hb.tl ?_);have:c+x+b.headD 0<2*B:=by omega
  have:=BN (m:=c+x+b.headD 0) (n:=B) (k:=2) (by rw[AB];exact this);omega
def subL(B:Nat):List Nat->List Nat->Nat->List Nat×Nat
 |[],_,c=>([],c)
 |x::a,b,c =>
  let r:=subL B a b.tail (if x<b.headD 0+c then 1 else 0)
  ((B+x-b.headD 0-c)%B::r.1,r.2)
theorem qeu{B:Nat}(hB:2<=B):∀(a b:List Nat) (c:Nat),Dg B a->Dg B b->c<=1->b.length<=a.length ->
  vl B (subL B a b c).1+vl B b+c=vl B a+B^a.length*(subL B a b c).2/\Dg B (subL B a b c).1/\(subL B a b c).1.length=a.length/\(subL B a b c).2<=1
 |[],b,c,_,_,hc,h=>by
  have:b=[]:=BH (by simpa using h);subst this;refine⟨by simp[subL,vl],λd hd=>by simp[subL]at hd,rfl,by simpa[subL]using hc⟩
 |x::a,b,c,ha,hb,hc,h=>by
  obtain⟨hx,ha'⟩:=ha.tail;have hy:=hb.headD (by omega);obtain⟨h1,h2,h3,h4⟩:=qeu hB a b.tail (if x<b.headD 0+c then 1 else 0) ha' hb.tl (by split <;> omega) (by rw[List.length_tail];simp at h;omega);have hh:=vl_head B b;simp only[subL];refine⟨?_,Dg.cons (AM _ (by omega)) h2,by simp only[Aq,h3],h4⟩;simp only[vl,Aq,Ax];generalize (subL B a b.tail (if x<b.headD 0+c then 1 else 0)).2=o at h1 h4 ⊢;generalize vl B (subL B a b.tail (if x<b.headD 0+c then 1 else 0)).1=V at h1 ⊢;have e:B*V+B*vl B b.tail+B*(if x<b.headD 0+c then 1 else 0)=B*vl B a+B^a.length*B*o:=by
   rw[<- AF,<- AF,h1,AF,AB (B^a.length) B,AV]
  by_cases hlt:x<b.headD 0+c
  ·rw[if_pos hlt]at e;by_cases hz:B+x-b.headD 0-c<B
   ·rw[AL hz];omega
   ·omega
  ·rw[if_neg hlt]at e;have:B+x-b.headD 0-c=(x-b.headD 0-c)+B:=by omega
   rw[this,Fq,AL (by omega)];omega
def mulL(B:Nat):List Nat->Nat->Nat->List Nat
 |[],_,c=>[c]
 |x::a,k,c=>((c+x*k)%B)::mulL B a k ((c+x*k) / B)
theorem qep{B:Nat}:∀(a:List Nat) (k c:Nat),vl B (mulL B a k c)=vl B a*k+c
 |[],k,c=>by simp[mulL,vl]
 |x::a,k,c=>by
  simp only[mulL,vl,qep a k];have h2:=Cr (c+x*k) B;rw[AF,AU,AV];omega
theorem qay{B c x k:Nat}(hx:x<B)(hk:k<B)(hc:c<B):c+x*k<B*B:=by
 have h1:x*k<=(B-1)*(B-1):=Cw (by omega) (by omega);have h2:(B-1)*(B-1)+B<=B*B:=by
  obtain⟨m,rfl⟩:∃m,B=m+1:=⟨B-1,by omega⟩;simp only[EB];rw[Cl,Db];omega
 omega
theorem qeo{B:Nat}:∀(a:List Nat) (k c:Nat),Dg B a->k<B->c<B->Dg B (mulL B a k c)
 |[],k,c,_,_,hc=>λd hd=>by simp only[mulL,BK]at hd;omega
 |x::a,k,c,ha,hk,hc=>by
  obtain⟨hx,ha'⟩:=ha.tail;exact Dg.cons (AM _ (by omega)) (qeo a k _ ha' hk (BN (qay hx hk hc)))
def divL(B k:Nat):List Nat->Nat×List Nat
 |[]=>(0,[])
 |d::l=>let r:=divL B k l;((r.1*B+d)%k,(r.1*B+d) / k::r.2)
theorem q63{B k:Nat}(hk:0<k):∀(l:List Nat),Dg B l->vl B l=k*vl B (divL B k l).2+(divL B k l).1/\(divL B k l).1<k/\Dg B (divL B k l).2/\(divL B k l).2.length=l.length
 |[],_=>⟨by simp[divL,vl],hk,λd h=>by simp[divL]at h,rfl⟩
 |d::l,h=>by
  obtain⟨hd,hl⟩:=h.tail;obtain⟨h1,h2,h3,h4⟩:=q63 hk l hl;simp only[divL];refine⟨?_,AM _ hk,Dg.cons ?_ h3,by simp[h4]⟩
  ·simp only[vl];generalize (divL B k l).1=r at *
   generalize vl B (divL B k l).2=q at *
   have e:=Dz (r*B+d) k;rw[AF,h1,AF,DL k B q,AB r B]at *
   omega
  ·rw[BO hk];have:((divL B k l).1+1)*B<=k*B:=AT B h2;rw[Db]at this;rw[AB B k];omega
def maRow(B:Nat):List Nat->List Nat->Nat->Nat->List Nat
 |acc,[],_,c=>acc.set 0 c
 |[],_::_,_,_=>[]
 |h::t,y::b,x,c=>((c+(h+x*y))%B)::maRow B t b x ((c+(h+x*y)) / B)
theorem qck{B:Nat}(hB:2<=B):∀(acc b rest:List Nat) (x c:Nat),acc.length=b.length->Dg B acc->Dg B b->x<B->c<B ->
  ∃w,maRow B (acc++0::rest) b x c=w++rest/\w.length=b.length+1/\Dg B w/\vl B w=vl B acc+x*vl B b+c
 |[],[],rest,x,c,_,_,_,_,hc=>⟨[c],by simp[maRow],rfl,λd hd=>by simp at hd;omega,by simp[vl]⟩
 |[],_::_,_,_,_,h,_,_,_,_=>by simp at h
 |_::_,[],_,_,_,h,_,_,_,_=>by simp at h
 |a::acc,y::b,rest,x,c,h,ha,hb,hx,hc=>by
  obtain⟨ha1,ha2⟩:=ha.tail;obtain⟨hb1,hb2⟩:=hb.tail;have hlt:c+(a+x*y)<B*B:=by
   have h1:x*y<=(B-1)*(B-1):=Cw (by omega) (by omega);have h2:(B-1)*(B-1)+(B-1)+B<=B*B:=by
    obtain⟨m,rfl⟩:∃m,B=m+1:=⟨B-1,by omega⟩;simp only[EB];rw[Cl,Db];omega
   omega
  obtain⟨w,h1,h2,h3,h4⟩:=qck hB acc b rest x ((c+(a+x*y)) / B) (by simpa using h) ha2 hb2 hx (BN hlt);refine⟨(c+(a+x*y))%B::w,by simp[maRow,h1],by simp[h2],Dg.cons (AM _ (by omega)) h3,?_⟩;simp only[vl,h4];have e:=Cr (c+(a+x*y)) B;rw[AF,AF,AF,DL B x];omega
def mulO(B:Nat):List Nat->List Nat->List Nat->List Nat
 |[],acc,_=>acc
 |x::a,acc,b=>match maRow B acc b x 0 with
  |[]=>[]
  |d::t=>d::mulO B a t b
theorem qev{B:Nat}(hB:2<=B):∀(a w b:List Nat),w.length=b.length->Dg B w->Dg B b->Dg B a ->
  vl B (mulO B a (w++List.replicate a.length 0) b)=vl B w+vl B a*vl B b/\Dg B (mulO B a (w++List.replicate a.length 0) b)/\(mulO B a (w++List.replicate a.length 0) b).length=a.length+b.length
 |[],w,b,h,hw,hb,_=>by simp[mulO,vl,h,hw]
 |x::a,w,b,h,hw,hb,ha=>by
  obtain⟨hx,ha'⟩:=ha.tail;obtain⟨w',h1,h2,h3,h4⟩:=qck hB w b (List.replicate a.length 0) x 0 h hw hb hx (by omega);simp only[Aq,Cd,mulO,h1];cases w' with
  |nil=>simp at h2
  |cons d t =>
   simp only[Al];obtain⟨hd,ht⟩:=h3.tail;obtain⟨g1,g2,g3⟩:=qev hB a t b (by simpa using h2) ht hb ha';refine⟨?_,Dg.cons hd g2,by simp[g3];omega⟩;simp only[vl]at h4 ⊢;rw[g1,AF,AU];have:B*(vl B a*vl B b)=B*vl B a*vl B b:=(AV _ _ _).symm;omega
def msL(B:Nat):List Nat->List Nat->Nat->Nat->Nat->List Nat×Nat
 |[],_,_,_,br=>([],br)
 |[u],[],_,ca,br=>([(B+u-ca%B-br)%B],if u<ca%B+br then 1 else 0)
 |u::us,[],g,ca,br=>let r:=msL B us [] g (ca / B) (if u<ca%B+br then 1 else 0);((B+u-ca%B-br)%B::r.1,r.2)
 |u::us,v::vs,g,ca,br =>
  let r:=msL B us vs g ((ca+g*v) / B) (if u<(ca+g*v)%B+br then 1 else 0)
  ((B+u-(ca+g*v)%B-br)%B::r.1,r.2)
theorem qmj{B u y br:Nat}(hu:u<B)(hy:y<B)(hb:br<=1):(B+u-y-br)%B+y+br=u+B*(if u<y+br then 1 else 0)/\(B+u-y-br)%B<B:=by
 refine⟨?_,AM _ (by omega)⟩;by_cases h:u<y+br
 ·rw[if_pos h];by_cases hz:B+u-y-br<B
  ·rw[AL hz];omega
  ·omega
 ·rw[if_neg h];have:B+u-y-br=(u-y-br)+B:=by omega
  rw[this,Fq,AL (by omega)];omega
theorem msL_ok{B:Nat}(hB:2<=B):∀(us vs:List Nat) (g ca br:Nat),us.length=vs.length+1->Dg B us->Dg B vs->g<B->ca<B->br<=1 ->
  vl B (msL B us vs g ca br).1+g*vl B vs+ca+br=vl B us+B^us.length*(msL B us vs g ca br).2/\Dg B (msL B us vs g ca br).1/\(msL B us vs g ca br).1.length=us.length/\(msL B us vs g ca br).2<=1
 |[],_,_,_,_,h,_,_,_,_,_=>by simp at h
 |[u],[],g,ca,br,_,hu,_,_,hc,hb=>by
  obtain⟨e1,e2⟩:=qmj (hu u (by simp)) hc hb;simp only[msL,AL hc];refine⟨?_,λd hd=>by simp only[BK]at hd;omega,rfl,by split <;> omega⟩;simp only[vl,By,Nat.pow_one,Ci,Ay];omega
 |_::_::_,[],_,_,_,h,_,_,_,_,_=>by simp at h
 |u::us,v::vs,g,ca,br,h,hu,hv,hg,hc,hb=>by
  obtain⟨hu1,hu2⟩:=hu.tail;obtain⟨hv1,hv2⟩:=hv.tail;have hm:(ca+g*v)%B<B:=AM _ (by omega);obtain⟨e1,e2⟩:=qmj hu1 hm hb;obtain⟨h1,h2,h3,h4⟩:=msL_ok hB us vs g ((ca+g*v) / B) (if u<(ca+g*v)%B+br then 1 else 0) (by simpa using h) hu2 hv2 hg (BN (qay hg hv1 hc)) (by split <;> omega);simp only[msL];refine⟨?_,Dg.cons e2 h2,by simp only[Aq,h3],h4⟩;simp only[vl,Aq,Ax];generalize (msL B us vs g ((ca+g*v) / B) (if u<(ca+g*v)%B+br then 1 else 0)).2=o at h1 h4 ⊢;generalize vl B (msL B us vs g ((ca+g*v) / B) (if u<(ca+g*v)%B+br then 1 else 0)).1=V at h1 ⊢;have e3:=Cr (ca+g*v) B;have e4:B*V+B*(g*vl B vs)+B*((ca+g*v) / B)+B*(if u<(ca+g*v)%B+br then 1 else 0)=B*vl B us+B^us.length*B*o:=by
   rw[<- AF,<- AF,<- AF,h1,AF,AB (B^us.length) B,AV]
  have e5:g*(v+B*vl B vs)=g*v+B*(g*vl B vs):=by rw[AF,DL]
  rw[e5];omega
def abL(B:Nat):List Nat->List Nat->Nat->List Nat
 |[],_,_=>[]
 |u::us,[],c=>(u+c)%B::us
 |u::us,v::vs,c=>((u+v+c)%B)::abL B us vs ((u+v+c) / B)
theorem abL_ok{B:Nat}(hB:2<=B):∀(us vs:List Nat) (c:Nat),us.length=vs.length+1->Dg B us->Dg B vs->c<=1 ->
  (vl B us+vl B vs+c)%B^us.length=vl B (abL B us vs c)/\Dg B (abL B us vs c)/\(abL B us vs c).length=us.length
 |[],_,_,h,_,_,_=>by simp at h
 |[u],[],c,_,hu,_,hc=>by
  simp only[abL];exact⟨by simp[vl],λd hd=>by simp only[BK]at hd;rw[hd];exact AM _ (by omega),rfl⟩
 |_::_::_,[],_,h,_,_,_=>by simp at h
 |u::us,v::vs,c,h,hu,hv,hc=>by
  obtain⟨hu1,hu2⟩:=hu.tail;obtain⟨hv1,hv2⟩:=hv.tail;have hdc:(u+v+c) / B<=1:=by
   have:=BN (m:=u+v+c) (n:=B) (k:=2) (by omega);omega
  obtain⟨h1,h2,h3⟩:=abL_ok hB us vs ((u+v+c) / B) (by simpa using h) hu2 hv2 hdc;simp only[abL];refine⟨?_,Dg.cons (AM _ (by omega)) h2,by simp only[Aq,h3]⟩;simp only[vl,Aq,<- h1];have e3:=Cr (u+v+c) B;have:u+B*vl B us+(v+B*vl B vs)+c=(u+v+c)%B+B*(vl B us+vl B vs+(u+v+c) / B):=by
   rw[AF,AF];omega
  rw[this,Ax,AB (B^us.length) B];generalize vl B us+vl B vs+(u+v+c) / B=X;have hm:(u+v+c)%B<B:=AM _ (by omega);generalize (u+v+c)%B=m at hm;have hX:=Cr X (B^us.length);have hP:0<B^us.length:=Bx (by omega);have hl:m+B*(X%B^us.length)<B*B^us.length:=by
   have:B*(X%B^us.length)+B<=B*B^us.length:=by rw[<- Cl];exact BE B (AM _ hP)
   omega
  have e:m+B*X=m+B*(X%B^us.length)+B*B^us.length*(X / B^us.length):=by
   conv=>lhs;rw[<- hX]
   rw[AF,AV];omega
  rw[e,Du,AL hl]
theorem guess_ge{B P U V top v1 v2 u3 lowU lowV g q:Nat}(hP:0<P)(hU:U=(top*B+u3)*P+lowU)(hlU:lowU<P)(hV:V=(v1*B+v2)*P+lowV)(hq:q*V<=U)
  (hg:top*B+u3<g*(v1*B+v2)):q<g:=by
 refine Nat.lt_of_not_le λhle=>?_;have h1:g*((v1*B+v2)*P)<=U:=by
  refine Bb ?_ hq;refine Cw hle ?_;rw[hV];omega
 have h2:(top*B+u3+1)*P<=g*(v1*B+v2)*P:=AT P hg;rw[Db,AV]at h2;omega
theorem guess_top{B P U V top v1 v2 u3 lowU lowV q:Nat}(hB:0<B)(hP:0<P)(hu3:u3<B)(hU:U=(top*B+u3)*P+lowU)(hlU:lowU<P)(hV:V=(v1*B+v2)*P+lowV)(hv1:0<v1)(hq:q*V<=U):q<=top / v1:=by
 rw[Fu hv1];refine Df λhlt=>?_;have h1:q*v1*(B*P)<=U:=by
  refine Bb ?_ hq;rw[hV,AV];refine BE q ?_;rw[AU,AV];omega
 have h2:(top+1)*(B*P)<=q*v1*(B*P):=AT _ hlt;have h3:(top*B+u3)*P+lowU<(top+1)*(B*P):=by
  have e:(top+1)*(B*P)=(top*B+(B-1))*P+P:=by
   rw[AU,AU,Nat.sub_mul,Ca,Ca,AV];have:P<=B*P:=FH P hB;omega
  have:(top*B+u3)*P<=(top*B+(B-1))*P:=AT P (by omega);omega
 omega
theorem guess_le{B P U V top v1 v2 u3 lowU lowV g:Nat}(hU:U=(top*B+u3)*P+lowU)(hV:V=(v1*B+v2)*P+lowV)(hlV:lowV<P)(hv1:0<v1)(hgB:g<B)
  (hg:g*(v1*B+v2)<=top*B+u3):g*V<U+V:=by
 have h1:g*V<=g*((v1*B+v2)*P)+g*P:=by
  rw[hV,AF];have:=BE g (CT hlV);omega
 have h2:g*((v1*B+v2)*P)<=U:=by
  rw[<- AV,hU];have:=AT P hg;omega
 have h3:g*P<V\/P=0:=by
  by_cases hP:P=0
  ·exact .inr hP
  ·left;have:g*P<B*P:=Fj hgB (by omega)
   have h4:B*P<=(v1*B+v2)*P:=AT P (by
    have:=FH B hv1
    omega)
   omega
 rcases h3 with h3 | h3
 ·omega
 ·omega
def shlL(B s:Nat):List Nat->Nat->List Nat
 |[],c=>[c]
 |x::a,c=>(c+x*2^s%B)::shlL B s a (x*2^s / B)
theorem qhi{B s:Nat}:∀(a:List Nat) (c:Nat),vl B (shlL B s a c)=vl B a*2^s+c
 |[],c=>by simp[shlL,vl]
 |x::a,c=>by
  simp only[shlL,vl,qhi a];have h2:=Cr (x*2^s) B;rw[AF,AU,AV];omega
def shrL(B s:Nat):List Nat->List Nat
 |u0::u1::u=>((u1*B+u0) / 2^s)%B::shrL B s (u1::u)
 |_=>[]
theorem shrL_ok{K s:Nat}:∀(u:List Nat) (u0:Nat),Dg (2^(K+s)) (u0::u) ->
  Dg (2^(K+s)) (shrL (2^(K+s)) s (u0::u))/\(shrL (2^(K+s)) s (u0::u)).length=u.length /\
   vl (2^(K+s)) (u0::u) / 2^s%(2^(K+s))^u.length=vl (2^(K+s)) (shrL (2^(K+s)) s (u0::u))
 |[],_,_=>⟨λd h=>by simp[shrL]at h,rfl,by simp[shrL,vl,Nat.mod_one]⟩
 |u1::u,u0,h=>by
  obtain⟨h0,h'⟩:=h.tail;obtain⟨g1,g2,g3⟩:=shrL_ok u u1 h';have hB:0<2^(K+s):=Bx (by omega);have hS:0<2^s:=Bx (by omega);have hBs:2^(K+s)=2^s*2^K:=by rw[Cb,AB]
  refine⟨Dg.cons (AM _ hB) g1,by simp only[shrL,Aq,g2],?_⟩;simp only[shrL,vl];rw[<- g3];simp only[vl,Aq];generalize vl (2^(K+s)) u=W;have e1:∀X,(u0+2^(K+s)*X) / 2^s=u0 / 2^s+2^K*X:=λX=>by
   rw[hBs,AV,Fo _ _ hS]
  have e2:(u1*2^(K+s)+u0) / 2^s=u0 / 2^s+2^K*u1:=by rw[Bn,AB,e1]
  rw[e1,e2];have hlo:u0 / 2^s<2^K:=by
   rw[BO hS,AB,<- hBs];exact h0
  have e3:∀X,u0 / 2^s+2^K*X=(u0 / 2^s+2^K*(X%2^s))+2^(K+s)*(X / 2^s):=λX=>by
   have:=Cr X (2^s)
   conv=>lhs;rw[<- this]
   rw[AF,Cb,AV];omega
  have hlt:∀X,u0 / 2^s+2^K*(X%2^s)<2^(K+s):=λX=>by
   have h1:2^K*(X%2^s)+2^K<=2^K*2^s:=by rw[<- Cl];exact BE _ (AM _ hS)
   rw[<- Cb]at h1;omega
  have e4:(u1+2^(K+s)*W)%2^s=u1%2^s:=by rw[hBs,AV,Du]
  rw[e3 u1,Du,AL (hlt u1),e3 (u1+2^(K+s)*W),e4];generalize (u1+2^(K+s)*W) / 2^s=Y;have hm:=hlt u1;generalize u0 / 2^s+2^K*(u1%2^s)=m at hm;generalize 2^(K+s)=B at *
  rw[Ax,AB (B^u.length) B];have hX:=Cr Y (B^u.length);have hP:0<B^u.length:=Bx hB;have hl:m+B*(Y%B^u.length)<B*B^u.length:=by
   have:B*(Y%B^u.length)+B<=B*B^u.length:=by rw[<- Cl];exact BE B (AM _ hP)
   omega
  have e:m+B*Y=m+B*(Y%B^u.length)+B*B^u.length*(Y / B^u.length):=by
   conv=>lhs;rw[<- hX]
   rw[AF,AV];omega
  rw[e,Du,AL hl]
def dK:Nat->Nat->List Nat
 |0,_=>[]
 |k+1,d=>d%10::dK k (d / 10)
theorem dK_len:∀(k d:Nat),(dK k d).length=k
 |0,_=>rfl
 |k+1,d=>by simp only[dK,Aq,dK_len k]
theorem dg_dK{m:Nat}(hm:m≠0):∀(k d:Nat),d<10^k->dg 10 (d+10^k*m)=dK k d++dg 10 m
 |0,d,h=>by
  have:d=0:=by simpa using h
  subst this;simp[dK]
 |k+1,d,h=>by
  have hp:0<10^k*m:=Nat.mul_pos (Bx (by omega)) (by omega);have e:10^(k+1)*m=10*(10^k*m):=by rw[Ax,AB (10^k) 10,AV]
  rw[e,q3c,Du,Fo _ _ (by omega)];rw[dg_dK hm k (d / 10) (by rw[Ax]at h;omega)];rfl
theorem dK_dg:∀(k d:Nat),d<10^k->dK k d=dg 10 d++List.replicate (k-(dg 10 d).length) 0
 |0,d,h=>by
  have:d=0:=by simpa using h
  subst this;simp[dK,q17]
 |k+1,d,h=>by
  have h':d / 10<10^k:=by rw[Ax]at h;omega
  have ih:=dK_dg k (d / 10) h';simp only[dK];by_cases h0:d=0
  ·subst h0;rw[ih];simp[q17,Cd]
  ·rw[q3c (by omega) h0,ih,Al,Aq];congr 3;omega
def chD(d:Nat):UInt8:=UInt8.ofNat (48+d)
def qk(n:Nat):List UInt8:=if n=0 then [48]else((dg 10 n).reverse).map chD
def isD(c:UInt8):Bool:=decide (48<=c.toNat)&&decide (c.toNat<=57)
def vD(s:List UInt8):Nat:=s.foldl (λn c=>n*10+(c.toNat-48)) 0
def canon(s:List UInt8):Prop:=s≠[]/\(∀c,c∈s->isD c=true)/\(s.head?=some 48->s.length=1)
theorem qe2{d:Nat}(h:d<10):(chD d).toNat=48+d:=by
 unfold chD;rw[UInt8.toNat_ofNat'];omega
theorem chD_isD{d:Nat}(h:d<10):isD (chD d)=true:=by
 unfold isD;rw[qe2 h];simp;omega
theorem vD_fold(s:List UInt8):∀(n:Nat),s.foldl (λn c=>n*10+(c.toNat-48)) n=n*10^s.length+vD s:=by
 induction s with
 |nil=>intro n;simp[vD]
 |cons c s ih =>
  intro n;simp only[Bf,Aq,vD];rw[ih,ih (0*10+(c.toNat-48))];rw[Ax,AU,Dk,AG,AV,AB 10 (10^s.length)];omega
theorem qbc(s t:List UInt8):vD (s++t)=vD s*10^t.length+vD t:=by
 unfold vD;rw[List.foldl_append,vD_fold t];rfl
theorem vD_vl(s:List UInt8):vD s=vl 10 ((s.map λc=>c.toNat-48).reverse):=by
 induction s with
 |nil=>rfl
 |cons c s ih =>
  rw[show c::s=[c]++s from rfl,qbc,ih,AK,Er,q62];simp[vD,vl,AB];omega
theorem vD_lt{s:List UInt8}(h:∀c,c∈s->isD c=true):vD s<10^s.length:=by
 rw[vD_vl];have:Dg 10 ((s.map λc=>c.toNat-48).reverse):=λd hd=>by
  rw[Fr]at hd;obtain⟨c,hc,rfl⟩:=Bp.1 hd;have:=h c hc;simp only[isD,Ai,At]at this;omega
 have:=q4e (b:=10) (by omega) this;simpa using this
theorem chD_back{c:UInt8}(h:isD c=true):chD (c.toNat-48)=c:=by
 simp only[isD,Ai,At]at h;unfold chD;apply UInt8.toNat.inj;rw[UInt8.toNat_ofNat'];have:=c.toNat_lt;omega
theorem qmk{s:List UInt8}(h:canon s):qk (vD s)=s:=by
 obtain⟨h0,h1,h2⟩:=h;obtain⟨c,s,rfl⟩:∃c s',s=c::s':=by cases s with | nil=>exact absurd rfl h0 | cons c s=>exact⟨_,_,rfl⟩
 have hc:=h1 c (by simp);have hD:Dg 10 (((c::s).map λc=>c.toNat-48).reverse):=λd hd=>by
  rw[Fr]at hd;obtain⟨x,hx,rfl⟩:=Bp.1 hd;have:=h1 x hx;simp only[isD,Ai,At]at this;omega
 have back:((c::s).map λc=>c.toNat-48).map chD=c::s:=by
  rw[Ct]
  conv=>rhs;rw[<- Ei (c::s)]
  exact CO λx hx=>chD_back (h1 x hx)
 by_cases hz:c=48
 ·have hl:=h2 (by rw[hz];rfl);have:s=[]:=BH (by simpa using hl);subst this;subst hz;rfl
 ·have hcn:c.toNat-48≠0:=by
   simp only[isD,Ai,At]at hc;intro h;apply hz;apply UInt8.toNat.inj;have:(48:UInt8).toNat=48:=rfl;omega
  have e:dg 10 (vD (c::s))=((c::s).map λc=>c.toNat-48).reverse:=by
   rw[vD_vl,q31 (by omega) hD,AS,Fl,qch hcn]
  have hv:vD (c::s)≠0:=λh=>by
   rw[h,q17]at e;simp at e
  unfold qk;rw[if_neg hv,e,FI,back]
theorem q6b(n:Nat):canon (qk n):=by
 unfold qk;split
 ·exact⟨by simp,λc h=>by rw[BK]at h;rw[h];rfl,λ_=>rfl⟩
 ·rename_i hn;have hne:dg 10 n≠[]:=λh=>hn ((q4t (by omega)).1 h);refine⟨by simpa using hne,λc h=>?_,λh=>?_⟩
  ·obtain⟨d,hd,rfl⟩:=Bp.1 h;rw[Fr]at hd;exact chD_isD (q10 (by omega) n d hd)
  ·obtain⟨l,d,hl⟩:∃l d,dg 10 n=l++[d]:=⟨_,_,(List.dropLast_concat_getLast hne).symm⟩;have hd:=dg_last (by omega) hl;have hdb:d<10:=q10 (by omega) n d (by rw[hl];simp);rw[hl]at h;simp only[Er,List.reverse_singleton,BP,AS,DK,AH]at h;have:=congrArg UInt8.toNat h;rw[qe2 hdb]at this;have h48:(48:UInt8).toNat=48:=rfl;omega
theorem q6c(n:Nat):vD (qk n)=n:=by
 unfold qk;split
 ·rename_i h;rw[h];rfl
 ·rw[vD_vl,Ct,<- List.map_reverse,FI];have:(dg 10 n).map ((λc:UInt8=>c.toNat-48) ∘ chD)=dg 10 n:=by
   conv=>rhs;rw[<- Ei (dg 10 n)]
   refine CO λd hd=>?_;show(chD d).toNat-48=d;rw[qe2 (q10 (by omega) n d hd)];omega
  rw[this,q1x (by omega)]
theorem qhn{m n:Nat}(h:qk m=qk n):m=n:=by rw[<- q6c m,h,q6c]
end Rf
end
section
namespace Rf
theorem qh1{b x k:Nat}(hb:2<=b)(h:x<2^k):(dg b x).length<=k :=
 q59 hb (AR h (Eu hb k))
theorem q98{x k:Nat}(h:x<2^k):(qk x).length<=k+1:=by
 unfold qk;split
 ·simp
 ·have:=qh1 (b:=10) (by omega) h;simp;omega
theorem pow_le16(n:Nat):10^n<=2^(4*n):=by
 rw[Nat.pow_mul];exact Eu (by omega) n
theorem vD_lt2{s:List UInt8}(h:∀c,c∈s->isD c=true):vD s<2^(4*s.length):=AR (vD_lt h) (pow_le16 _)
theorem qhp{n:Nat}:n<2^(4*(qk n).length):=by
 have:=vD_lt2 (q6b n).2.1;rwa[q6c]at this
theorem qfi(n:Nat):1<=(qk n).length:=by
 have:=(q6b n).1;have:=CX.2 this;omega
def qu(z:Int):List UInt8:=if z<0 then 45::qk z.natAbs else qk z.natAbs
def qy(r:Rat):List UInt8:=if r.den=1 then qu r.num else qu r.num++47::qk r.den
theorem isD_47:isD 47=false:=by decide
theorem isD_45:isD 45=false:=by decide
theorem qfj{c:UInt8}(hc:isD c=false){l:List UInt8}(h:canon l):c ∉ l:=λq=>by
 have:=h.2.1 c q;rw[hc]at this;cases this
theorem qh6{t:List UInt8}:¬ canon (45::t):=λh=>qfj isD_45 h (by simp)
theorem q9a(z:Int):(47:UInt8) ∉ qu z:=by
 have:=qfj isD_47 (q6b z.natAbs);unfold qu;split
 ·simp only[Ar,not_or];exact⟨by decide,this⟩
 ·exact this
theorem qda{a b:Int}(h:qu a=qu b):a=b:=by
 have h45:∀n t,(45:UInt8)::t≠qk n:=λn t q=>qh6 (q▸q6b n);unfold qu at h;split at h <;> split at h
 ·have:=qhn (List.cons.inj h).2;omega
 ·exact absurd h (h45 _ _)
 ·exact absurd h.symm (h45 _ _)
 ·have:=qhn h;omega
open Classical in
noncomputable def pz(l:List UInt8):Option Int:=if h:∃z,l=qu z then some h.choose else none
theorem q4i{l:List UInt8}{z:Int}:pz l=some z↔l=qu z:=by
 unfold pz;constructor
 ·intro h;split at h
  ·rename_i hz;cases h;exact hz.choose_spec
  ·cases h
 ·intro h;have hz:∃z,l=qu z:=⟨z,h⟩;rw[BZ hz];congr 1;exact qda (hz.choose_spec.symm.trans h)
theorem pz_none{l:List UInt8}:pz l=none↔∀z,l≠qu z:=by
 constructor
 ·intro h z q;rw[q4i.2 q]at h;cases h
 ·intro h;unfold pz;rw[Cf (λ⟨z,q⟩=>h z q)]
theorem pz_neg{t:List UInt8}(hc:canon t)(h0:vD t≠0):pz (45::t)=some (-(vD t:Int)):=by
 rw[q4i];unfold qu;rw[if_pos (by omega)];congr 1;rw[BC,CC,qmk hc]
theorem pz_pos{l:List UInt8}(hc:canon l):pz l=some (vD l:Int):=by
 rw[q4i];unfold qu;rw[if_neg (by omega),CC,qmk hc]
theorem qa9{l:List UInt8}{z:Int}(h:pz l=some z):z.natAbs<2^(4*l.length):=by
 rw[q4i]at h;subst h;unfold qu;split
 ·exact AR qhp (AW (by omega) (by simp;omega))
 ·exact qhp
def cutA(l:List UInt8):List UInt8:=l.takeWhile (· !=47)
def cutB(l:List UInt8):List UInt8:=(l.dropWhile (· !=47)).tail
theorem qe9{l:List UInt8}(h:47 ∉ l):cutA l=l/\cutB l=[]:=by
 have hp:∀x,x∈l->(x !=47)=true:=λx hx=>by
  simp only[CF,ne_eq];intro q;exact h (q▸hx)
 unfold cutA cutB;have e1:l.takeWhile (· !=47)=l:=by
  clear h
  induction l with
  |nil=>rfl
  |cons a l ih=>rw[DM,hp a (by simp)];simp only[Ba];rw[ih λx hx=>hp x (by simp[hx])]
 have e2:l.dropWhile (· !=47)=[]:=by
  clear h e1
  induction l with
  |nil=>rfl
  |cons a l ih=>rw[DN,hp a (by simp)];simp only[Ba];rw[ih λx hx=>hp x (by simp[hx])]
 exact⟨e1,by rw[e2];rfl⟩
theorem qdc{a b:List UInt8}(h:47 ∉ a):cutA (a++47::b)=a/\cutB (a++47::b)=b:=by
 unfold cutA cutB
 induction a with
 |nil=>exact⟨rfl,rfl⟩
 |cons x a ih =>
  simp only[Ar,not_or]at h;obtain⟨i1,i2⟩:=ih h.2;have hx:(x !=47)=true:=by
   simp only[CF,ne_eq];exact λq=>h.1 q.symm
  simp only[Al,DM,DN,hx,Ba];exact⟨by rw[i1],i2⟩
theorem qdb{l:List UInt8}(h:47∈l):l=cutA l++47::cutB l:=by
 unfold cutA cutB
 induction l with
 |nil=>simp at h
 |cons x l ih =>
  by_cases hx:x=47
  ·subst hx;rfl
  ·have hb:(x !=47)=true:=by simpa using hx
   have:47∈l:=by
    rcases Ar.1 h with h | h
    ·exact absurd h.symm hx
    ·exact h
   simp only[DM,DN,hb,Ba,Al];rw[<- ih this]
theorem cutA_no(l:List UInt8):47 ∉ cutA l:=by
 unfold cutA
 induction l with
 |nil=>simp
 |cons x l ih =>
  rw[DM];split
  ·rename_i h;have hx:x≠47:=by simpa using h
   simp only[Ar,not_or];exact⟨λq=>hx q.symm,ih⟩
  ·simp
theorem cut_len(l:List UInt8):(cutA l).length<=l.length/\(cutB l).length<=l.length:=by
 by_cases h:47∈l
 ·have:=congrArg List.length (qdb h);simp at this;omega
 ·obtain⟨h1,h2⟩:=qe9 h;rw[h1,h2];simp
theorem qmo(r:Rat):47∈qy r↔r.den≠1:=by
 unfold qy;split
 ·rename_i h;simp[h,q9a]
 ·rename_i h;simp[h]
theorem rtext_inj{a b:Rat}(h:qy a=qy b):a=b:=by
 have hd:a.den=1↔b.den=1:=by
  have h1:=qmo a;have h2:=qmo b;rw[h]at h1;by_cases q:a.den=1 <;> by_cases q':b.den=1 <;> simp_all
 unfold qy at h;by_cases q:a.den=1
 ·have q':=hd.1 q;rw[if_pos q,if_pos q']at h;exact Rat.ext (qda h) (q.trans q'.symm)
 ·have q':¬ b.den=1:=λh=>q (hd.2 h);rw[if_neg q,if_neg q']at h;obtain⟨a1,a2⟩:=qdc (b:=qk a.den) (q9a a.num);obtain⟨b1,b2⟩:=qdc (b:=qk b.den) (q9a b.num);rw[h]at a1 a2;exact Rat.ext (qda (a1.symm.trans b1)) (qhn (a2.symm.trans b2))
open Classical in
noncomputable def pr(l:List UInt8):Option Rat:=if h:∃r,l=qy r then some h.choose else none
theorem q99{l:List UInt8}{r:Rat}:pr l=some r↔l=qy r:=by
 unfold pr;constructor
 ·intro h;split at h
  ·rename_i hz;cases h;exact hz.choose_spec
  ·cases h
 ·intro h;have hz:∃z,l=qy z:=⟨r,h⟩;rw[BZ hz];congr 1;exact rtext_inj (hz.choose_spec.symm.trans h)
theorem pr_none{l:List UInt8}:pr l=none↔∀r,l≠qy r:=by
 constructor
 ·intro h z q;rw[q99.2 q]at h;cases h
 ·intro h;unfold pr;rw[Cf (λ⟨z,q⟩=>h z q)]
def Bd(k:Nat)(r:Rat):Prop:=r.num.natAbs<2^k/\r.den<2^k
theorem Bd.mono{k m:Nat}{r:Rat}(h:Bd k r)(hkm:k<=m:=by omega):Bd m r :=
 ⟨AR h.1 (AW (by omega) hkm),AR h.2 (AW (by omega) hkm)⟩
theorem qdd(a b:Int)(hb:b≠0):(Rat.divInt a b).num.natAbs<=a.natAbs/\(Rat.divInt a b).den<=b.natAbs:=by
 have hg:(b.gcd a:Int) ∣ a:=Int.gcd_dvd_right _ _;have hg0:0<b.gcd a:=Int.gcd_pos_of_ne_zero_left _ hb;constructor
 ·rw[Rat.num_divInt,Int.mul_ediv_assoc _ hg,Ce];have h1:b.sign.natAbs=1:=by
   rcases EP hb with h | h
   ·rw[CN h];rfl
   ·rw[Ck h];rfl
  rw[h1,Ca,Int.natAbs_ediv_of_dvd hg,CC];exact Dm _ _
 ·rw[Rat.den_divInt,if_neg hb];exact Dm _ _
theorem qfe(r s:Rat):r+s=Rat.divInt (r.num*s.den+s.num*r.den) (r.den*s.den):=by
 have hr:(r.den:Int)≠0:=by have:=r.den_nz;omega
 have hs:(s.den:Int)≠0:=by have:=s.den_nz;omega
 rw[<- Rat.divInt_add_divInt _ _ hr hs,Cp,Cp]
theorem qu5(r s:Rat):r-s=Rat.divInt (r.num*s.den-s.num*r.den) (r.den*s.den):=by
 have hr:(r.den:Int)≠0:=by have:=r.den_nz;omega
 have hs:(s.den:Int)≠0:=by have:=s.den_nz;omega
 rw[<- Rat.divInt_sub_divInt _ _ hr hs,Cp,Cp]
theorem qfd(r s:Rat):r*s=Rat.divInt (r.num*s.num) (r.den*s.den):=by
 rw[<- Rat.divInt_mul_divInt,Cp,Cp]
theorem q97(r s:Rat):((r.den:Int)*(s.den:Int))≠0:=by
 have hr:(r.den:Int)≠0:=by have:=r.den_nz;omega
 have hs:(s.den:Int)≠0:=by have:=s.den_nz;omega
 exact Int.mul_ne_zero hr hs
theorem qmp(r s:Rat):((r.den:Int)*(s.den:Int)).natAbs=r.den*s.den:=by rw[Ce];rfl
theorem q4h{a b k m:Nat}(h:a<2^k)(h':b<2^m):a*b<2^(k+m):=by
 rw[Cb];exact Nat.mul_lt_mul'' h h'
theorem Bd.mul{k m:Nat}{r s:Rat}(h:Bd k r)(h':Bd m s):Bd (k+m) (r*s):=by
 rw[qfd];obtain⟨h1,h2⟩:=qdd (r.num*s.num) (r.den*s.den) (q97 r s);rw[Ce]at h1;rw[qmp]at h2;exact⟨BI h1 (q4h h.1 h'.1),BI h2 (q4h h.2 h'.2)⟩
theorem qlx{k m:Nat}{r s:Rat}(h:Bd k r)(h':Bd m s):(r.num*s.den).natAbs<2^(k+m)/\(s.num*r.den).natAbs<2^(k+m):=by
 rw[Ce,Ce,CC,CC];exact⟨q4h h.1 h'.2,by rw[Bn k];exact q4h h'.1 h.2⟩
theorem Bd.add{k m:Nat}{r s:Rat}(h:Bd k r)(h':Bd m s):Bd (k+m+1) (r+s):=by
 rw[qfe];obtain⟨h1,h2⟩:=qdd (r.num*s.den+s.num*r.den) (r.den*s.den) (q97 r s);rw[qmp]at h2;obtain⟨c1,c2⟩:=qlx h h';have:=q4h h.2 h'.2;rw[Bd,Ax];constructor <;> omega
theorem Bd.neg{k:Nat}{r:Rat}(h:Bd k r):Bd k (-r):=by
 refine⟨?_,h.2⟩;show(-r.num).natAbs<_;rw[BC];exact h.1
theorem Bd.sub{k m:Nat}{r s:Rat}(h:Bd k r)(h':Bd m s):Bd (k+m+1) (r-s):=by
 rw[Rat.sub_eq_add_neg];exact h.add h'.neg
theorem Bd.int{k:Nat}{z:Int}(h:z.natAbs<2^k)(hk:1<=k):Bd k (z:Rat):=by
 refine⟨h,?_⟩;show 1<2^k;exact Ey (by omega)
theorem qfg{z:Int}{k:Nat}(h:z.natAbs<2^k):(qu z).length<=k+2:=by
 have:=q98 h;unfold qu;split <;> simp <;> omega
theorem Bd.len{k:Nat}{r:Rat}(h:Bd k r):(qy r).length<=2*k+4:=by
 have h1:=qfg h.1;have h2:=q98 h.2;unfold qy;split
 ·omega
 ·simp;omega
theorem Bd.of{r:Rat}:Bd (4*(qy r).length) r:=by
 have hz:r.num.natAbs<2^(4*(qu r.num).length):=qa9 (q4i.2 rfl);have hp:1<=(qu r.num).length:=by
  have:=qfi r.num.natAbs;unfold qu;split <;> simp <;> omega
 unfold qy;split
 ·rename_i h;exact⟨hz,by rw[h];exact Ey (by omega)⟩
 ·refine⟨AR hz (AW (by omega) (by simp;omega)),AR qhp (AW (by omega) (by simp;omega))⟩
theorem qa3{l:List UInt8}{r:Rat}(h:pr l=some r):Bd (4*l.length) r:=by
 rw[q99]at h;subst h;exact Bd.of
end Rf
end
namespace Rf
open Go
section
def txt(l:List UInt8):ByteArray:=⟨l.toArray⟩
def dgts:List UInt8:=[48,49,50,51,52,53,54,55,56,57]
def q8b(l cs:List UInt8):List UInt8:=((l.reverse.dropWhile (cs.contains ·)).reverse).dropWhile (cs.contains ·)
def cloneExt:List FV->Option (List FV)
 |[.list 1 xs]=>if xs≠[]/\xs.length<=1099511627776/\xs.all (λx=>match x with | .int .u32 _=>true | _=>false)=true then some [.list 1 xs]else none
 |_=>none
def formatExt:List FV->Option (List FV)
 |[.int .u64 n,.int .i64 b]=>if 0<=n/\n<1000000000000/\b=10 then some [.str (txt (qk n.toNat))]else none
 |_=>none
def repeatExt:List FV->Option (List FV)
 |[.str s,.int .i64 k]=>if s.data.toList=[48]/\0<=k/\k<=9 then some [.str (txt (List.replicate k.toNat 48))]else none
 |_=>none
def byts:FV->List UInt8
 |.str s=>s.data.toList
 |_=>[]
def q69:FV->Bool
 |.str _=>true
 |_=>false
def joinExt:List FV->Option (List FV)
 |[.list 1 xs,.str sep]=>if sep.data.toList=[]/\xs.all q69=true/\xs.length<=1099511627776/\((xs.map byts).flatten).length<=1099511627776 then some [.str (txt ((xs.map byts).flatten))]else none
 |_=>none
def trimExt:List FV->Option (List FV)
 |[.str s,.str c]=>if c.data.toList=dgts/\s.data.toList.length<=1099511627776 then some [.str (txt (q8b s.data.toList dgts))]else none
 |_=>none
def parseExt:List FV->Option (List FV)
 |[.str s,.int .i64 b,.int .i64 z]=>if s.data.toList≠[]/\s.data.toList.length<=9/\s.data.toList.all isD=true/\b=10/\z=32 then some [.int .u64 (vD s.data.toList:Int),.raw .nilIface]else none
 |_=>none
def ixB:List UInt8->UInt8->Int
 |[],_=>-1
 |b::l,c=>if b==c then 0 else if ixB l c==-1 then -1 else ixB l c+1
def idxExt:List FV->Option (List FV)
 |[.str s,.int .u8 c]=>some [.int .i64 (ixB s.data.toList c.toNat.toUInt8)]
 |_=>none
def extT:Nat->Option (List FV->Option (List FV)):=λf=>lookN f [(230,cloneExt),(206,formatExt),(207,repeatExt),(209,joinExt),(248,trimExt),(249,parseExt),(262,idxExt)]
end
section
def Ev(E:Env)(f:FuncId)(L R:List FV):Prop:=∃n0,∀n,n0<=n->evF E n f L=some R
theorem Ev.of{E:Env}{f:FuncId}{L R:List FV}(n0:Nat)(h:∀n,n0<=n->evF E (n+1) f L=some R):Ev E f L R :=
 ⟨n0+1,λn hn=>by
  obtain⟨k,rfl⟩:∃k,n=k+1:=⟨n-1,by omega⟩
  exact h k (by omega)⟩
theorem Ev.run{E:Env}{f:FuncId}{L R:List FV}(h:Ev E f L R):∃n,evF E n f L=some R:=let ⟨n,hn⟩:=h;⟨n,hn n (Ak _)⟩
theorem wrap_u32(x:Nat):IntKind.wrap .u32 (x:Int)=((x%4294967296:Nat):Int):=by
 unfold IntKind.wrap;simp[IntKind.bits,IntKind.signed]
theorem wrap_u64(x:Nat):IntKind.wrap .u64 (x:Int)=((x%18446744073709551616:Nat):Int):=by
 unfold IntKind.wrap;simp[IntKind.bits,IntKind.signed]
theorem q6e{x:Nat}(h:x<4294967296:=by omega):IntKind.wrap .u32 (x:Int)=(x:Int):=by rw[wrap_u32,AL h]
theorem q1a{x:Nat}(h:x<18446744073709551616:=by omega):IntKind.wrap .u64 (x:Int)=(x:Int):=by rw[wrap_u64,AL h]
theorem q3w{x:Nat}(h:x<9223372036854775808:=by omega):w6 (x:Int)=(x:Int):=qo
theorem qfl(x y:Nat):(x:Int)+(y:Int)=((x+y:Nat):Int):=rfl
theorem qj5(x y:Nat):(x:Int)*(y:Int)=((x*y:Nat):Int):=rfl
theorem q7b{x y:Nat}(h:x+y<18446744073709551616:=by omega):IntKind.wrap .u64 ((x:Int)+(y:Int))=((x+y:Nat):Int):=by rw[qfl,q1a h]
theorem qb0{x y:Nat}(h:x*y<18446744073709551616:=by omega):IntKind.wrap .u64 ((x:Int)*(y:Int))=((x*y:Nat):Int):=by rw[qj5,q1a h]
theorem q2m{x y:Nat}(h:x+y<9223372036854775808:=by omega):w6 ((x:Int)+(y:Int))=((x+y:Nat):Int):=by rw[qfl,q3w h]
theorem qaz{x y:Nat}(h:x*y<9223372036854775808:=by omega):w6 ((x:Int)*(y:Int))=((x*y:Nat):Int):=by rw[qj5,q3w h]
theorem qba(k:IntKind)(x s:Nat)(hs:s<=k.bits):shI false k (x:Int) (s:Int)=((x / 2^s:Nat):Int):=by
 unfold shI;rw[Ab,Bh,EQ hs,Int.fdiv_eq_ediv_of_nonneg _ (by exact Int.le_of_lt (Int.pow_pos (by omega)))];have:(2:Int)^s=((2^s:Nat):Int):=by simp
 rw[this];rfl
theorem qaa(k:IntKind)(x s:Nat)(hs:s<=k.bits):shI true k (x:Int) (s:Int)=k.wrap ((x*2^s:Nat):Int):=by
 unfold shI;rw[Ac,Bh,EQ hs];congr 1
theorem qdf{w x:Nat}(h:x<2^w):(BitVec.ofInt w (x:Int)).toNat=x:=by
 rw[BitVec.toNat_ofInt];have:((x:Int)%(2^w:Nat)).toNat=x:=by
  rw[Int.emod_eq_of_lt (by omega) (by exact_mod_cast h),Bh]
 simpa using this
theorem qbb{x y:Nat}(hx:x<18446744073709551616:=by omega)(hy:y<18446744073709551616:=by omega):bitI .or .u64 (x:Int) (y:Int)=((x ||| y:Nat):Int):=by
 have h:x ||| y<2^64:=Nat.or_lt_two_pow hx hy
 show IntKind.wrap .u64 (((BitVec.ofInt 64 (x:Int) ||| BitVec.ofInt 64 (y:Int)).toNat:Nat):Int)=_;rw[BitVec.toNat_or,qdf hx,qdf hy,q1a h]
theorem or_u32{x y:Nat}(hx:x<4294967296)(hy:y<4294967296):bitI .or .u32 (x:Int) (y:Int)=((x ||| y:Nat):Int):=by
 have h:x ||| y<2^32:=Nat.or_lt_two_pow hx hy
 show IntKind.wrap .u32 (((BitVec.ofInt 32 (x:Int) ||| BitVec.ofInt 32 (y:Int)).toNat:Nat):Int)=_;rw[BitVec.toNat_or,qdf hx,qdf hy,q6e h]
theorem qdg{x y s:Nat}(hy:y<2^s:=by omega):x*2^s ||| y=x*2^s+y:=by
 rw[AB,Nat.two_pow_add_eq_or_of_lt hy]
abbrev d32(d:Nat):FV:=.int .u32 (d:Int)
abbrev d64(d:Nat):FV:=.int .i64 (d:Int)
abbrev L32(l:List Nat):FV:=.list 1 (l.map d32)
abbrev L64(l:List Nat):FV:=.list 1 (l.map d64)
theorem q3p{l:List Nat}{i:Nat}(h:i<l.length):at' (l.map d32) i 0=some (.int .u32 (l[i]:Int)):=by rw[q26,Ag h];rfl
theorem q61{l:List Nat}{i:Nat}(h:i<l.length):at' (l.map d64) i 0=some (.int .i64 (l[i]:Int)):=by rw[q26,Ag h];rfl
theorem bit_and(A B:BitVec 32):bitI .and .u32 (A.toNat:Int) (B.toNat:Int)=((A &&& B).toNat:Int):=by
 show IntKind.wrap .u32 (((BitVec.ofInt 32 (A.toNat:Int) &&& BitVec.ofInt 32 (B.toNat:Int)).toNat:Nat):Int)=_;rw[Dp,Dp,Dq,Dq,Dr,Dr,q6e (A &&& B).isLt]
theorem bit_or(A B:BitVec 32):bitI .or .u32 (A.toNat:Int) (B.toNat:Int)=((A ||| B).toNat:Int):=by
 show IntKind.wrap .u32 (((BitVec.ofInt 32 (A.toNat:Int) ||| BitVec.ofInt 32 (B.toNat:Int)).toNat:Nat):Int)=_;rw[Dp,Dp,Dq,Dq,Dr,Dr,q6e (A ||| B).isLt]
theorem bit_xor(A B:BitVec 32):bitI .xor .u32 (A.toNat:Int) (B.toNat:Int)=((A ^^^ B).toNat:Int):=by
 show IntKind.wrap .u32 (((BitVec.ofInt 32 (A.toNat:Int) ^^^ BitVec.ofInt 32 (B.toNat:Int)).toNat:Nat):Int)=_;rw[Dp,Dp,Dq,Dq,Dr,Dr,q6e (A ^^^ B).isLt]
theorem bit_not(A:BitVec 32):bitI .xor .u32 (4294967295:Int) (A.toNat:Int)=((~~~A).toNat:Int):=by
 have h:=bit_xor (BitVec.allOnes 32) A;rw[show((BitVec.allOnes 32).toNat:Int)=4294967295 from rfl,BitVec.allOnes_xor]at h;exact h
theorem top_bit(A:BitVec 32):A.toNat / 2^31=if A.msb then 1 else 0:=by
 have h:=A.isLt;rw[Ee];simp only[Nat.reduceSub,At];split <;> omega
theorem qp2{x y br:Nat}(hx:x<4294967296)(hy:y<4294967296)(hb:br<=1) :
  shI false .u32 (bitI .or .u32 (bitI .and .u32 (bitI .xor .u32 4294967295 (x:Int)) (y:Int)) (bitI .and .u32 (bitI .xor .u32 4294967295 (bitI .xor .u32 (x:Int) (y:Int))) (((4294967296+x-y-br)%4294967296:Nat):Int))) 31 =
   ((if x<y+br then 1 else 0:Nat):Int):=by
 obtain⟨X,hX⟩:∃X:BitVec 32,X.toNat=x:=⟨BitVec.ofNat 32 x,by simp;omega⟩;obtain⟨Y,hY⟩:∃X:BitVec 32,X.toNat=y:=⟨BitVec.ofNat 32 y,by simp;omega⟩;obtain⟨D,hD⟩:∃X:BitVec 32,X.toNat=(4294967296+x-y-br)%4294967296:=⟨BitVec.ofNat 32 (4294967296+x-y-br),by simp⟩;rw[<- hX,<- hY]at *
 rw[<- hD,bit_not,bit_and,bit_xor,bit_not,bit_and,bit_or];have:=qba .u32 ((~~~X &&& Y ||| ~~~(X ^^^ Y) &&& D).toNat) 31 (by decide);rw[show((31:Nat):Int)=31 from rfl]at this;rw[this,top_bit,BitVec.msb_or,BitVec.msb_and,BitVec.msb_and,BitVec.msb_not,BitVec.msb_not,BitVec.msb_xor];have mX:X.msb=decide (2147483648<=X.toNat):=by rw[Ee]
 have mY:Y.msb=decide (2147483648<=Y.toNat):=by rw[Ee]
 have mD:D.msb=decide (2147483648<=D.toNat):=by rw[Ee]
 rw[mX,mY,mD,hD];congr 1;by_cases a1:2147483648<=X.toNat <;> by_cases a2:2147483648<=Y.toNat <;> by_cases a3:2147483648<=(4294967296+X.toNat-Y.toNat-br)%4294967296 <;> simp[a1,a2,a3] <;> omega
end
section
theorem q7k(l:List UInt8):(txt l).data.toList=l:=by simp[txt]
theorem qbd(s:ByteArray):txt s.data.toList=s:=rfl
theorem q1g(l:List UInt8):(txt l).size=l.length:=by simp[txt,ByteArray.size]
theorem txt_inj{a b:List UInt8}(h:txt a=txt b):a=b:=by rw[<- q7k a,h,q7k]
theorem txt_eq{a b:List UInt8}:txt a=txt b↔a=b:=⟨txt_inj,λh=>by rw[h]⟩
theorem q5d(a b:List UInt8):txt a++txt b=txt (a++b):=by
 apply ByteArray.ext;rw[ByteArray.data_append];simp[txt]
theorem q5e(l:List UInt8)(i j:Nat):(txt l).extract i j=txt ((l.take j).drop i):=by
 apply ByteArray.ext;rw[ByteArray.data_extract];apply CZ;rw[List.drop_take];simp[txt]
theorem q48(l:List UInt8)(i:Nat):q2p (txt l) (i:Int)=(l[i]?).map λb=>(b.toNat:Int):=by
 unfold q2p;rw[if_pos (by omega),Bh];congr 1;by_cases h:i<l.length
 ·rw[Ag h,getElem?_pos _ _ (by rw[q1g];exact h)];rfl
 ·rw[Di (by omega),getElem?_neg _ _ (by rw[q1g];exact h)]
theorem q37(a b:List UInt8):((txt a).toList==(txt b).toList)=decide (a=b):=by
 rw[toList_eq];simp[txt_eq]
abbrev sF(l:List UInt8):FV:=.str (txt l)
theorem q9n{P:List (List UInt8)}{i:Nat}(h:i<P.length):at' (P.map sF) i 0=some (.str (txt P[i])):=by rw[q26,Ag h];rfl
end
end Rf
section
namespace Rf
open Go
open Go.Proofs.Tryz
def tyL:List (Nat×TyI):=[
 (1,⟨1,8,false,[.raw (.nilFunc)],0,[],0⟩),
 (2,⟨1,8,false,[.int .i64],0,[],0⟩),
 (3,⟨1,8,false,[.int .i64],0,[],0⟩),
 (4,⟨1,1,false,[.bool],0,[],0⟩),
 (5,⟨1,1,false,[.int .u8],0,[],0⟩),
 (6,⟨1,1,false,[.int .u8],0,[],0⟩),
 (7,⟨4,24,true,[.int .i64,.int .i64,.bool,.int .u8],0,[(0,2),(1,3),(2,4),(3,6)],0⟩),
 (8,⟨4,24,true,[.int .i64,.int .i64,.bool,.int .u8],0,[(0,2),(1,3),(2,4),(3,6)],0⟩),
 (9,⟨1,16,false,[.str],0,[],0⟩),
 (20,⟨1,16,false,[.raw (.nilIface)],0,[],0⟩),
 (21,⟨1,4,false,[.int .i32],0,[],0⟩),
 (22,⟨1,2,false,[.int .u16],0,[],0⟩),
 (23,⟨1,24,false,[.lst 3],143,[],0⟩),
 (24,⟨5,56,true,[.int .i64,.int .i64,.lst 3,.int .i64,.int .i64],0,[(0,3),(1,3),(2,23),(3,3),(4,3)],0⟩),
 (25,⟨5,56,true,[.int .i64,.int .i64,.lst 3,.int .i64,.int .i64],0,[(0,3),(1,3),(2,23),(3,3),(4,3)],0⟩),
 (26,⟨7,64,true,[.str,.int .i64,.int .i64,.int .i64,.bool,.int .i64,.int .i64],0,[(0,9),(1,3),(2,3),(3,3),(4,4),(5,3),(6,3)],0⟩),
 (27,⟨7,64,true,[.str,.int .i64,.int .i64,.int .i64,.bool,.int .i64,.int .i64],0,[(0,9),(1,3),(2,3),(3,3),(4,4),(5,3),(6,3)],0⟩),
 (28,⟨1,24,false,[.lst 7],27,[],0⟩),
 (29,⟨1,24,false,[.lst 1],3,[],0⟩),
 (30,⟨1,24,true,[.lst 1],0,[(0,29)],0⟩),
 (31,⟨1,24,true,[.lst 1],0,[(0,29)],0⟩),
 (32,⟨2,32,true,[.bool,.lst 1],0,[(0,4),(1,31)],0⟩),
 (33,⟨2,32,true,[.bool,.lst 1],0,[(0,4),(1,31)],0⟩),
 (34,⟨4,64,true,[.bool,.lst 1,.bool,.lst 1],0,[(0,33),(2,33)],0⟩),
 (35,⟨4,64,true,[.bool,.lst 1,.bool,.lst 1],0,[(0,33),(2,33)],0⟩),
 (39,⟨1,24,false,[.lst 1],9,[],0⟩),
 (40,⟨1,24,false,[.lst 1],39,[],0⟩),
 (41,⟨1,24,false,[.lst 1],4,[],0⟩),
 (42,⟨8,144,true,[.lst 1,.lst 1,.lst 1,.lst 1,.str,.str,.bool,.int .i64],0,[(0,41),(1,39),(2,40),(3,40),(4,9),(5,9),(6,4),(7,3)],0⟩),
 (43,⟨8,144,true,[.lst 1,.lst 1,.lst 1,.lst 1,.str,.str,.bool,.int .i64],0,[(0,41),(1,39),(2,40),(3,40),(4,9),(5,9),(6,4),(7,3)],0⟩),
 (46,⟨1,24,false,[.lst 8],71,[],0⟩),
 (47,⟨15,248,true,[.int .i64,.int .i64,.lst 3,.int .i64,.int .i64,.lst 7,.lst 8,.lst 1,.lst 1,.lst 1,.lst 1,.str,.str,.bool,.int .i64],0,[(0,25),(5,28),(6,46),(7,43)],0⟩),
 (48,⟨15,248,true,[.int .i64,.int .i64,.lst 3,.int .i64,.int .i64,.lst 7,.lst 8,.lst 1,.lst 1,.lst 1,.lst 1,.str,.str,.bool,.int .i64],0,[(0,25),(5,28),(6,46),(7,43)],0⟩),
 (54,⟨1,2,false,[.int .i16],0,[],0⟩),
 (55,⟨1,8,false,[.int .i64],0,[],0⟩),
 (58,⟨1,24,false,[.lst 2],63,[],0⟩),
 (62,⟨2,32,true,[.str,.str],0,[(0,9),(1,9)],0⟩),
 (63,⟨2,32,true,[.str,.str],0,[(0,9),(1,9)],0⟩),
 (67,⟨15,248,true,[.int .i64,.int .i64,.lst 3,.int .i64,.int .i64,.lst 7,.lst 8,.lst 1,.lst 1,.lst 1,.lst 1,.str,.str,.bool,.int .i64],0,[(0,25),(5,28),(6,46),(7,43)],0⟩),
 (70,⟨8,88,true,[.str,.int .i64,.int .i64,.bool,.int .i64,.lst 1,.int .i64,.int .i64],0,[(0,9),(1,3),(2,3),(3,4),(4,3),(5,29),(6,3),(7,3)],0⟩),
 (71,⟨8,88,true,[.str,.int .i64,.int .i64,.bool,.int .i64,.lst 1,.int .i64,.int .i64],0,[(0,9),(1,3),(2,3),(3,4),(4,3),(5,29),(6,3),(7,3)],0⟩),
 (72,⟨18,176,true,[.int .i64,.int .i64,.int .i64,.str,.int .i64,.int .i64,.int .i64,.bool,.int .i64,.int .i64,.str,.int .i64,.int .i64,.bool,.int .i64,.lst 1,.int .i64,.int .i64],0,[(0,3),(1,3),(2,3),(3,27),(10,71)],0⟩),
 (73,⟨18,176,true,[.int .i64,.int .i64,.int .i64,.str,.int .i64,.int .i64,.int .i64,.bool,.int .i64,.int .i64,.str,.int .i64,.int .i64,.bool,.int .i64,.lst 1,.int .i64,.int .i64],0,[(0,3),(1,3),(2,3),(3,27),(10,71)],0⟩),
 (85,⟨1,8,false,[.raw (.pointer none)],96,[],0⟩),
 (86,⟨1,24,false,[.lst 4],94,[],0⟩),
 (87,⟨1,24,false,[.lst 1],86,[],0⟩),
 (88,⟨1,24,false,[.lst 1],231,[],0⟩),
 (89,⟨1,24,true,[.lst 1],0,[(0,88)],0⟩),
 (90,⟨1,24,true,[.lst 1],0,[(0,88)],0⟩),
 (91,⟨2,32,true,[.lst 1,.bool],0,[(0,90),(1,4)],0⟩),
 (92,⟨2,32,true,[.lst 1,.bool],0,[(0,90),(1,4)],0⟩),
 (93,⟨4,64,true,[.lst 1,.bool,.lst 1,.bool],0,[(0,92),(2,92)],0⟩),
 (94,⟨4,64,true,[.lst 1,.bool,.lst 1,.bool],0,[(0,92),(2,92)],0⟩),
 (95,⟨26,448,true,[.int .i64,.int .i64,.lst 3,.int .i64,.int .i64,.lst 7,.lst 8,.lst 1,.lst 1,.lst 1,.lst 1,.str,.str,.bool,.int .i64,.lst 4,.lst 1,.lst 1,.lst 1,.bool,.lst 1,.bool,.lst 1,.bool,.lst 1,.bool],0,[(0,25),(5,28),(6,46),(7,43),(15,86),(16,87),(17,87),(18,94),(22,94)],0⟩),
 (96,⟨26,448,true,[.int .i64,.int .i64,.lst 3,.int .i64,.int .i64,.lst 7,.lst 8,.lst 1,.lst 1,.lst 1,.lst 1,.str,.str,.bool,.int .i64,.lst 4,.lst 1,.lst 1,.lst 1,.bool,.lst 1,.bool,.lst 1,.bool,.lst 1,.bool],0,[(0,25),(5,28),(6,46),(7,43),(15,86),(16,87),(17,87),(18,94),(22,94)],0⟩),
 (100,⟨1,24,false,[.lst 1],103,[],0⟩),
 (103,⟨1,24,false,[.lst 4],35,[],0⟩),
 (112,⟨1,8,false,[.raw (.nilFunc)],0,[],0⟩),
 (116,⟨1,8,false,[.raw (.nilFunc)],0,[],0⟩),
 (118,⟨1,8,false,[.raw (.nilFunc)],0,[],0⟩),
 (122,⟨1,8,false,[.raw (.map none)],3,[],125⟩),
 (123,⟨1,8,false,[.raw (.map none)],3,[],127⟩),
 (124,⟨2,24,true,[.str,.int .i64],0,[(0,9),(1,3)],0⟩),
 (125,⟨2,24,true,[.str,.int .i64],0,[(0,9),(1,3)],0⟩),
 (126,⟨2,24,true,[.str,.int .i64],0,[(0,9),(1,3)],0⟩),
 (127,⟨2,24,true,[.str,.int .i64],0,[(0,9),(1,3)],0⟩),
 (137,⟨1,8,false,[.raw (.nilFunc)],0,[],0⟩),
 (142,⟨3,24,true,[.int .i64,.int .i64,.int .i64],0,[(0,3),(1,3),(2,3)],0⟩),
 (143,⟨3,24,true,[.int .i64,.int .i64,.int .i64],0,[(0,3),(1,3),(2,3)],0⟩),
 (153,⟨1,8,false,[.int .u64],0,[],0⟩),
 (157,⟨1,8,false,[.raw (.nilFunc)],0,[],0⟩),
 (159,⟨1,8,false,[.raw (.nilFunc)],0,[],0⟩),
 (172,⟨1,8,false,[.raw (.nilFunc)],0,[],0⟩),
 (182,⟨1,8,false,[.int .u64],0,[],0⟩),
 (191,⟨1,8,false,[.raw (.nilFunc)],0,[],0⟩),
 (194,⟨1,8,false,[.raw (.nilFunc)],0,[],0⟩),
 (195,⟨1,8,false,[.raw (.nilFunc)],0,[],0⟩),
 (197,⟨1,8,false,[.raw (.nilFunc)],0,[],0⟩),
 (200,⟨1,24,false,[.lst 1],5,[],0⟩),
 (206,⟨1,8,false,[.raw (.nilFunc)],0,[],0⟩),
 (207,⟨1,8,false,[.raw (.nilFunc)],0,[],0⟩),
 (216,⟨1,8,false,[.raw (.nilFunc)],0,[],0⟩),
 (222,⟨1,8,false,[.int .i64],0,[],0⟩),
 (231,⟨1,4,false,[.int .u32],0,[],0⟩),
 (258,⟨1,8,false,[.int .u64],0,[],0⟩),
 (262,⟨1,8,false,[.raw (.pointer none)],3,[],0⟩),
 (271,⟨1,8,false,[.raw (.pointer none)],273,[],0⟩),
 (272,⟨2,32,true,[.raw (.pointer none),.lst 1],0,[(0,271),(1,200)],0⟩),
 (273,⟨2,32,true,[.raw (.pointer none),.lst 1],0,[(0,271),(1,200)],0⟩),
 (275,⟨1,16,false,[.raw (.nilIface)],0,[],0⟩),
 (276,⟨1,16,false,[.raw (.nilIface)],0,[],0⟩),
 (279,⟨24,24,true,[.int .u8,.int .u8,.int .u8,.int .u8,.int .u8,.int .u8,.int .u8,.int .u8,.int .u8,.int .u8,.int .u8,.int .u8,.int .u8,.int .u8,.int .u8,.int .u8,.int .u8,.int .u8,.int .u8,.int .u8,.int .u8,.int .u8,.int .u8,.int .u8],5,[],0⟩),
 (287,⟨1,8,false,[.raw (.pointer none)],258,[],0⟩),
 (293,⟨1,8,false,[.raw (.pointer none)],5,[],0⟩),
 (295,⟨20,160,true,[.int .u64,.int .u64,.int .u64,.int .u64,.int .u64,.int .u64,.int .u64,.int .u64,.int .u64,.int .u64,.int .u64,.int .u64,.int .u64,.int .u64,.int .u64,.int .u64,.int .u64,.int .u64,.int .u64,.int .u64],153,[],0⟩),
 (304,⟨1,8,false,[.raw (.pointer none)],300,[],0⟩),
 (314,⟨1,8,false,[.int .i64],0,[],0⟩),
 (316,⟨1,8,false,[.raw (.pointer none)],324,[],0⟩),
 (319,⟨32,32,true,[.int .u8,.int .u8,.int .u8,.int .u8,.int .u8,.int .u8,.int .u8,.int .u8,.int .u8,.int .u8,.int .u8,.int .u8,.int .u8,.int .u8,.int .u8,.int .u8,.int .u8,.int .u8,.int .u8,.int .u8,.int .u8,.int .u8,.int .u8,.int .u8,.int .u8,.int .u8,.int .u8,.int .u8,.int .u8,.int .u8,.int .u8,.int .u8],5,[],0⟩),
 (320,⟨64,64,true,[.int .u8,.int .u8,.int .u8,.int .u8,.int .u8,.int .u8,.int .u8,.int .u8,.int .u8,.int .u8,.int .u8,.int .u8,.int .u8,.int .u8,.int .u8,.int .u8,.int .u8,.int .u8,.int .u8,.int .u8,.int .u8,.int .u8,.int .u8,.int .u8,.int .u8,.int .u8,.int .u8,.int .u8,.int .u8,.int .u8,.int .u8,.int .u8,.int .u8,.int .u8,.int .u8,.int .u8,.int .u8,.int .u8,.int .u8,.int .u8,.int .u8,.int .u8,.int .u8,.int .u8,.int .u8,.int .u8,.int .u8,.int .u8,.int .u8,.int .u8,.int .u8,.int .u8,.int .u8,.int .u8,.int .u8,.int .u8,.int .u8,.int .u8,.int .u8,.int .u8,.int .u8,.int .u8,.int .u8,.int .u8],5,[],0⟩),
 (323,⟨3,48,true,[.str,.str,.raw (.nilIface)],0,[(0,9),(1,9),(2,276)],0⟩),
 (324,⟨3,48,true,[.str,.str,.raw (.nilIface)],0,[(0,9),(1,9),(2,276)],0⟩),
 (327,⟨2,2,true,[.int .u8,.int .u8],0,[(0,5),(1,5)],0⟩),
 (328,⟨2,2,true,[.int .u8,.int .u8],0,[(0,5),(1,5)],0⟩),
 (329,⟨32,32,true,[.int .u8,.int .u8,.int .u8,.int .u8,.int .u8,.int .u8,.int .u8,.int .u8,.int .u8,.int .u8,.int .u8,.int .u8,.int .u8,.int .u8,.int .u8,.int .u8,.int .u8,.int .u8,.int .u8,.int .u8,.int .u8,.int .u8,.int .u8,.int .u8,.int .u8,.int .u8,.int .u8,.int .u8,.int .u8,.int .u8,.int .u8,.int .u8],328,[],0⟩),
 (330,⟨1,8,false,[.raw (.pointer none)],332,[],0⟩),
 (331,⟨1,16,true,[.str],0,[(0,9)],0⟩),
 (332,⟨1,16,true,[.str],0,[(0,9)],0⟩)]
abbrev tI:Tok:=.int .i64
abbrev tB:Tok:=.bool
abbrev tS:Tok:=.str
abbrev tL:Tok:=.lst 1
abbrev tK:Tok:=.skip
def fnL:List (Nat×FnI):=[
(2,⟨[],[],[]⟩),
(3,⟨[.int .u16,.int .u16,.int .u16,tB],[tK,tK,tK,tK,tB],[]⟩),
(4,⟨[.agg 15,tI,tI,.lst 3,tI,tI,.lst 7,.lst 8,tL,tL,tL,tL,tS,tS,tB,tI,.int .u8],[tK,tK,tB],[]⟩),
(5,⟨[.agg 15,tI,tI,.lst 3,tI,tI,.lst 7,.lst 8,tL,tL,tL,tL,tS,tS,tB,tI],[tK,tB],[]⟩),
(6,⟨[.agg 15,tI,tI,.lst 3,tI,tI,.lst 7,.lst 8,tL,tL,tL,tL,tS,tS,tB,tI,tI],[tK,tK,tB],[(31,[2,5,8,9],[.obj 15,tI,tI,.lst 3,tI,tI,.lst 7,.lst 8,tL,tL,tL,tL,tS,tS,tB,tI,.obj 8,tL,tL,tL,tL,tS,tS,tB,tI,.own 1,tI])]⟩),
(7,⟨[.int .u8,.int .i16,.int .u8],[tK,tK,tK,tB],[]⟩),
(8,⟨[.agg 5,tI,tI,.lst 3,tI,tI,.lst 7,tL],[tK,tK,tK,tB],[(5,[3,7,1,2,8],[.obj 5,tI,tI,.lst 3,tI,tI,.obj 8,tL,.own 1,.own 1,.own 1,tS,tS,tB,tI,.lst 7,tL,tI]),(9,[3,7,1,2,9],[.obj 5,tI,tI,.lst 3,tI,tI,.obj 8,tL,.own 1,.own 1,.own 1,tS,tS,tB,tI,.lst 7,tL,tI]),(13,[3,7,1,2,9,10,11],[.obj 5,tI,tI,.lst 3,tI,tI,.obj 8,tL,.own 1,.own 1,.own 1,tS,tS,tB,tI,.lst 7,tL,tI,.own 1,tI]),(22,[3,7,1,2,9,13,14],[.obj 5,tI,tI,.lst 3,tI,tI,.obj 8,tL,.own 1,.own 1,.own 1,tS,tS,tB,tI,.lst 7,tL,tI,.own 1,tI]),(31,[3,1,15,16,19],[.obj 5,tI,tI,.lst 3,tI,tI,.lst 7,.lst 2,tI,tI])]⟩),
(9,⟨[.agg 15,tI,tI,.lst 3,tI,tI,.lst 7,.lst 8,tL,tL,tL,tL,tS,tS,tB,tI],[tK,tB],[(9,[1,3,4,7,8],[.obj 15,tI,tI,.lst 3,tI,tI,.lst 7,.lst 8,tL,tL,tL,tL,tS,tS,tB,tI,.lst 2,tI,tL,tI]),(13,[1,3,4,7,8,9,10],[.obj 15,tI,tI,.lst 3,tI,tI,.lst 7,.lst 8,tL,tL,tL,tL,tS,tS,tB,tI,.lst 2,tI,tL,tI,tI,tI]),(18,[1,3,4,7,8,9,11],[.obj 15,tI,tI,.lst 3,tI,tI,.lst 7,.lst 8,tL,tL,tL,tL,tS,tS,tB,tI,.lst 2,tI,tL,tI,tI,tI])]⟩),
(10,⟨[.agg 15,tI,tI,.lst 3,tI,tI,.lst 7,.lst 8,tL,tL,tL,tL,tS,tS,tB,tI,tS,tI],[tK,tK,tK,tB],[]⟩),
(11,⟨[.agg 15,tI,tI,.lst 3,tI,tI,.lst 7,.lst 8,tL,tL,tL,tL,tS,tS,tB,tI],[tK,tB],[(10,[1,7,3,8,9],[.obj 15,tI,tI,.lst 3,tI,tI,.lst 7,.lst 8,tL,tL,tL,tL,tS,tS,tB,tI,.obj 4,tB,tL,tB,tL,.lst 2,tL,tI]),(18,[1,7,3,8,14],[.obj 15,tI,tI,.lst 3,tI,tI,.lst 7,.lst 8,tL,tL,tL,tL,tS,tS,tB,tI,.obj 4,tB,tL,tB,tL,.lst 2,tL,tI]),(28,[1,7,19,20,3,8,21],[.obj 15,tI,tI,.lst 3,tI,tI,.lst 7,.lst 8,tL,tL,tL,tL,tS,tS,tB,tI,.obj 4,tB,tL,tB,tL,.obj 4,tB,tL,tB,tL,.obj 4,tB,tL,tB,tL,.lst 2,tL,tI])]⟩),
(12,⟨[tI],[tK,.agg 4,tB,tL,tB,tL],[]⟩),
(13,⟨[.agg 4,tB,tL,tB,tL,.agg 4,tB,tL,tB,tL],[tK,tK,.agg 4,tB,tL,tB,tL],[]⟩),
(14,⟨[.agg 4,tB,tL,tB,tL],[tK,tS],[]⟩),
(15,⟨[.agg 5,tI,tI,.lst 3,tI,tI,.lst 7,.lst 8,.agg 8,tL,tL,tL,tL,tS,tS,tB,tI],[tK,tK,tK,tK,tI],[]⟩),
(16,⟨[.agg 15,tI,tI,.lst 3,tI,tI,.lst 7,.lst 8,tL,tL,tL,tL,tS,tS,tB,tI],[tK,tB],[(3,[1,3,4],[.obj 15,tI,tI,.lst 3,tI,tI,.lst 7,.lst 8,tL,tL,tL,tL,tS,tS,tB,tI,tI,tI]),(7,[1,3,5],[.obj 15,tI,tI,.lst 3,tI,tI,.lst 7,.lst 8,tL,tL,tL,tL,tS,tS,tB,tI,tI,tI]),(11,[1,3,6],[.obj 15,tI,tI,.lst 3,tI,tI,.lst 7,.lst 8,tL,tL,tL,tL,tS,tS,tB,tI,tI,tI]),(15,[1,3,7],[.obj 15,tI,tI,.lst 3,tI,tI,.lst 7,.lst 8,tL,tL,tL,tL,tS,tS,tB,tI,tI,tI])]⟩),
(17,⟨[.agg 5,tI,tI,.lst 3,tI,tI,.lst 7,.lst 8,.agg 8,tL,tL,tL,tL,tS,tS,tB,tI],[tK,tK,tK,tK,tI],[(22,[7,1,2,11,18],[.obj 8,tL,tL,tL,tL,tS,tS,tB,tI,.lst 7,.lst 8,tL,tI])]⟩),
(18,⟨[.agg 5,tI,tI,.lst 3,tI,tI,.lst 7,.lst 8],[tK,tK,tK,tB],[(4,[3,1,2,26,27,28],[.obj 5,tI,tI,.lst 3,tI,tI,.lst 7,.lst 8,.lst 7,tI,tI]),(11,[3,1,2,9,65,66,67],[.obj 5,tI,tI,.lst 3,tI,tI,.lst 7,.lst 8,.raw ((.func (.func 65) #[] #[])),.lst 8,tI,tI]),(19,[2,118,119],[.lst 8,tI,tI])]⟩),
(19,⟨[.agg 5,tI,tI,.lst 3,tI,tI,.lst 7,.lst 8],[tK,tK,tK,tB],[(4,[3,1,2,7],[.obj 5,tI,tI,.lst 3,tI,tI,.lst 7,.lst 8,tI]),(12,[3,2,9],[.obj 5,tI,tI,.lst 3,tI,tI,.lst 8,tI]),(19,[3,2,9,11,12],[.obj 5,tI,tI,.lst 3,tI,tI,.lst 8,tI,tI,tI])]⟩),
(20,⟨[.lst 8,tL],[tK,tK,tB],[(5,[0,1,5,6,18,19,20],[.lst 8,tL,.mapt true [.str,.int .i64] (.int .i64 0),.mapt true [.str,.int .i64] (.int .i64 0),.lst 8,tI,tI]),(12,[1,5,6,50,51,52],[tL,.mapt true [.str,.int .i64] (.int .i64 0),.mapt true [.str,.int .i64] (.int .i64 0),.lst 8,tI,tI])]⟩),
(21,⟨[.lst 8,tL],[tK,tK,tB],[(4,[0,1,5],[.lst 8,tL,tI]),(10,[6,0,1,5,7,8],[.obj 8,tS,tI,tI,tB,tI,tL,tI,tI,.lst 8,tL,tI,tB,tI])]⟩),
(22,⟨[tS],[tK,.agg 4,tB,tL,tB,tL,tI],[(2,[2,0,4],[.obj 4,tB,tL,tB,tL,tS,tI])]⟩),
(23,⟨[.agg 5,tI,tI,.lst 3,tI,tI,.lst 7,.lst 8,.agg 8,tL,tL,tL,tL,tS,tS,tB,tI],[tK,tK,tK,tK,.lst 2,tI],[(5,[4,7,1,2,10,32,33,34],[.obj 5,tI,tI,.lst 3,tI,tI,.obj 8,tL,tL,tL,tL,tS,tS,tB,tI,.lst 7,.lst 8,.own 1,.lst 7,tI,tI]),(10,[4,7,1,2,10,44,45,46],[.obj 5,tI,tI,.lst 3,tI,tI,.obj 8,tL,tL,tL,tL,tS,tS,tB,tI,.lst 7,.lst 8,.own 1,.lst 8,tI,tI]),(19,[4,7,15,16,1,2,60,61,62,17],[.obj 5,tI,tI,.lst 3,tI,tI,.obj 8,tL,tL,tL,tL,tS,tS,tB,tI,.obj 1,.own 2,.obj 2,tL,tB,.lst 7,.lst 8,tL,tI,tI,.clo (.func 82) 2,.ref 4,.ref 2]),(27,[7,15,16,84,85,86,17],[.obj 8,tL,tL,tL,tL,tS,tS,tB,tI,.obj 1,.own 2,.obj 2,tL,tB,.lst 3,tI,tI,.clo (.func 82) 2,.ref 3,.ref 1])]⟩),
(24,⟨[.agg 4,tB,tL,tB,tL],[tK,.agg 2,tB,tL],[]⟩),
(25,⟨[.agg 2,tB,tL],[tK,tS],[]⟩),
(26,⟨[.agg 2,tB,tL],[tK,.agg 2,tB,tL],[]⟩),
(27,⟨[.agg 5,tI,tI,.lst 3,tI,tI,.lst 7,.lst 8,.agg 8,tL,tL,tL,tL,tS,tS,tB,tI],[tK,tK,tK,tK,.lst 2,tI],[(7,[4,7,12,1,2,10,11,13],[.obj 5,tI,tI,.lst 3,tI,tI,.obj 8,tL,tL,tL,tL,tS,tS,tB,tI,.obj 4,tB,tL,tB,tL,.lst 7,.lst 8,tL,.own 2,tI]),(18,[4,7,12,11,21],[.obj 5,tI,tI,.lst 3,tI,tI,.obj 8,tL,tL,tL,tL,tS,tS,tB,tI,.obj 4,tB,tL,tB,tL,.own 2,tI])]⟩),
(28,⟨[.lst 7,.lst 8],[tK,tK,tL],[(3,[0,1,5,6],[.lst 7,.lst 8,.own 1,tI]),(7,[1,5,7],[.lst 8,.own 1,tI]),(12,[5,8,9],[.own 1,tL,tI]),(15,[5,8,9,10],[.own 1,tL,tI,tI])]⟩),
(29,⟨[.agg 15,tI,tI,.lst 3,tI,tI,.lst 7,.lst 8,tL,tL,tL,tL,tS,tS,tB,tI],[tK,tB],[(3,[1,3,4],[.obj 15,tI,tI,.lst 3,tI,tI,.lst 7,.lst 8,tL,tL,tL,tL,tS,tS,tB,tI,tI,tI]),(7,[1,3,5],[.obj 15,tI,tI,.lst 3,tI,tI,.lst 7,.lst 8,tL,tL,tL,tL,tS,tS,tB,tI,tI,tI]),(12,[1,3,6],[.obj 15,tI,tI,.lst 3,tI,tI,.lst 7,.lst 8,tL,tL,tL,tL,tS,tS,tB,tI,tI,tI]),(16,[1,3,7],[.obj 15,tI,tI,.lst 3,tI,tI,.lst 7,.lst 8,tL,tL,tL,tL,tS,tS,tB,tI,tI,tI])]⟩),
(31,⟨[.lst 7,.lst 8,.agg 8,tL,tL,tL,tL,tS,tS,tB,tI,tS],[tK,tK,tK,tK,tS,tI],[]⟩),
(32,⟨[.agg 4,tB,tL,tB,tL,.agg 4,tB,tL,tB,tL],[tK,tK,tI],[]⟩),
(33,⟨[.lst 7,.lst 8,.agg 8,tL,tL,tL,tL,tS,tS,tB,tI,tS],[tK,tK,tK,tK,tS,tI],[(3,[6,10,0,1,3,11],[.obj 8,tL,tL,tL,tL,tS,tS,tB,tI,.obj 4,tB,tL,tB,tL,.lst 7,.lst 8,tS,tI]),(17,[6,10,1,3,17],[.obj 8,tL,tL,tL,tL,tS,tS,tB,tI,.obj 4,tB,tL,tB,tL,.lst 8,tS,tI]),(24,[6,10,18,1,3,17,19],[.obj 8,tL,tL,tL,tL,tS,tS,tB,tI,.obj 4,tB,tL,tB,tL,.obj 8,tS,tI,tI,tB,tI,tL,tI,tI,.lst 8,tS,tI,tI])]⟩),
(35,⟨[.agg 5,tI,tI,.lst 3,tI,tI,.agg 8,tL,tL,tL,tL,tS,tS,tB,tI,tI],[tK,tK,tK,tS,tI],[(6,[4,8,9,2,10],[.obj 8,tL,tL,tL,tL,tS,tS,tB,tI,.obj 4,tB,tL,tB,tL,.obj 3,tI,tI,tI,tI,tI])]⟩),
(36,⟨[.lst 2,.lst 2],[tK,tK,tB],[(4,[0,1,5],[.lst 2,.lst 2,tI])]⟩),
(37,⟨[.agg 4,tB,tL,tB,tL,.agg 4,tB,tL,tB,tL],[tK,tK,.agg 4,tB,tL,tB,tL],[]⟩),
(38,⟨[.agg 4,tB,tL,tB,tL],[tK,tI],[]⟩),
(39,⟨[.agg 4,tB,tL,tB,tL],[tK,.agg 4,tB,tL,tB,tL],[]⟩),
(40,⟨[tI],[tK,.agg 2,tB,tL],[]⟩),
(41,⟨[.agg 2,tB,tL,.agg 2,tB,tL],[tK,tK,.agg 4,tB,tL,tB,tL],[]⟩),
(42,⟨[.agg 2,tB,tL,.agg 2,tB,tL],[tK,tK,.agg 2,tB,tL],[]⟩),
(43,⟨[.agg 4,tB,tL,tB,tL],[tK,.agg 2,tB,tL],[]⟩),
(44,⟨[.obj 26,tI,tI,.lst 3,tI,tI,.lst 7,.lst 8,tL,tL,tL,tL,tS,tS,tB,tI,.lst 4,.own 1,.own 1,tL,tB,tL,tB,tL,tB,tL,tB],[.obj 26,tI,tI,.lst 3,tI,tI,.lst 7,.lst 8,tL,tL,tL,tL,tS,tS,tB,tI,.lst 4,.own 1,.own 1,tL,tB,tL,tB,tL,tB,tL,tB,tB],[(4,[0,86,87],[.obj 26,tI,tI,.lst 3,tI,tI,.lst 7,.lst 8,tL,tL,tL,tL,tS,tS,tB,tI,.lst 4,.own 1,.own 1,tL,tB,tL,tB,tL,tB,tL,tB,tI,tI])]⟩),
(45,⟨[.obj 26,tI,tI,.lst 3,tI,tI,.lst 7,.lst 8,tL,tL,tL,tL,tS,tS,tB,tI,.lst 4,.own 1,.own 1,tL,tB,tL,tB,tL,tB,tL,tB],[.obj 26,tI,tI,.lst 3,tI,tI,.lst 7,.lst 8,tL,tL,tL,tL,tS,tS,tB,tI,.lst 4,.own 1,.own 1,tL,tB,tL,tB,tL,tB,tL,tB,tB],[(5,[0,3,22,23,4],[.obj 26,tI,tI,.lst 3,tI,tI,.lst 7,.lst 8,tL,tL,tL,tL,tS,tS,tB,tI,.lst 4,.own 1,.own 1,tL,tB,tL,tB,tL,tB,tL,tB,.obj 1,tB,tI,tI,.clo (.func 104) 1,.ref 3])]⟩),
(46,⟨[.obj 26,tI,tI,.lst 3,tI,tI,.lst 7,.lst 8,tL,tL,tL,tL,tS,tS,tB,tI,.lst 4,.own 1,.own 1,tL,tB,tL,tB,tL,tB,tL,tB],[.obj 26,tI,tI,.lst 3,tI,tI,.lst 7,.lst 8,tL,tL,tL,tL,tS,tS,tB,tI,.lst 4,.own 1,.own 1,tL,tB,tL,tB,tL,tB,tL,tB,tB],[]⟩),
(47,⟨[.obj 26,tI,tI,.lst 3,tI,tI,.lst 7,.lst 8,tL,tL,tL,tL,tS,tS,tB,tI,.lst 4,.own 1,.own 1,tL,tB,tL,tB,tL,tB,tL,tB],[.obj 26,tI,tI,.lst 3,tI,tI,.lst 7,.lst 8,tL,tL,tL,tL,tS,tS,tB,tI,.lst 4,.own 1,.own 1,tL,tB,tL,tB,tL,tB,tL,tB,tB],[(2,[0,15,16],[.obj 26,tI,tI,.lst 3,tI,tI,.lst 7,.lst 8,tL,tL,tL,tL,tS,tS,tB,tI,.lst 4,.own 1,.own 1,tL,tB,tL,tB,tL,tB,tL,tB,tI,tI]),(6,[0,3,4,15,16,39,40,41],[.obj 26,tI,tI,.lst 3,tI,tI,.lst 7,.lst 8,tL,tL,tL,tL,tS,tS,tB,tI,.lst 4,.own 1,.own 1,tL,tB,tL,tB,tL,tB,tL,tB,tI,.own 4,tI,tI,tL,tI,tI]),(11,[0,3,4,15,16,55,56,57],[.obj 26,tI,tI,.lst 3,tI,tI,.lst 7,.lst 8,tL,tL,tL,tL,tS,tS,tB,tI,.lst 4,.own 1,.own 1,tL,tB,tL,tB,tL,tB,tL,tB,tI,.own 4,tI,tI,.lst 7,tI,tI]),(19,[0,3,4,15,16,109,110,111],[.obj 26,tI,tI,.lst 3,tI,tI,.lst 7,.lst 8,tL,tL,tL,tL,tS,tS,tB,tI,.lst 4,.own 1,.own 1,tL,tB,tL,tB,tL,tB,tL,tB,tI,.own 4,tI,tI,.lst 3,tI,tI])]⟩),
(48,⟨[.obj 26,tI,tI,.lst 3,tI,tI,.lst 7,.lst 8,tL,tL,tL,tL,tS,tS,tB,tI,.lst 4,.own 1,.own 1,tL,tB,tL,tB,tL,tB,tL,tB],[.obj 26,tI,tI,.lst 3,tI,tI,.lst 7,.lst 8,tL,tL,tL,tL,tS,tS,tB,tI,.lst 4,.own 1,.own 1,tL,tB,tL,tB,tL,tB,tL,tB,tB],[(2,[0,9,10,11],[.obj 26,tI,tI,.lst 3,tI,tI,.lst 7,.lst 8,tL,tL,tL,tL,tS,tS,tB,tI,.lst 4,.own 1,.own 1,tL,tB,tL,tB,tL,tB,tL,tB,.lst 7,tI,tI])]⟩),
(49,⟨[.obj 26,tI,tI,.lst 3,tI,tI,.lst 7,.lst 8,tL,tL,tL,tL,tS,tS,tB,tI,.lst 4,.own 1,.own 1,tL,tB,tL,tB,tL,tB,tL,tB],[.obj 26,tI,tI,.lst 3,tI,tI,.lst 7,.lst 8,tL,tL,tL,tL,tS,tS,tB,tI,.lst 4,.own 1,.own 1,tL,tB,tL,tB,tL,tB,tL,tB,tB],[(2,[0,11,12],[.obj 26,tI,tI,.lst 3,tI,tI,.lst 7,.lst 8,tL,tL,tL,tL,tS,tS,tB,tI,.lst 4,.own 1,.own 1,tL,tB,tL,tB,tL,tB,tL,tB,tI,tI]),(5,[0,3,11,12,19,20,21],[.obj 26,tI,tI,.lst 3,tI,tI,.lst 7,.lst 8,tL,tL,tL,tL,tS,tS,tB,tI,.lst 4,.own 1,.own 1,tL,tB,tL,tB,tL,tB,tL,tB,tI,tI,tI,.lst 3,tI,tI])]⟩),
(50,⟨[.obj 26,tI,tI,.lst 3,tI,tI,.lst 7,.lst 8,tL,tL,tL,tL,tS,tS,tB,tI,.lst 4,.own 1,.own 1,tL,tB,tL,tB,tL,tB,tL,tB],[.obj 26,tI,tI,.lst 3,tI,tI,.lst 7,.lst 8,tL,tL,tL,tL,tS,tS,tB,tI,.lst 4,.own 1,.own 1,tL,tB,tL,tB,tL,tB,tL,tB,tB],[]⟩),
(51,⟨[.obj 26,tI,tI,.lst 3,tI,tI,.lst 7,.lst 8,tL,tL,tL,tL,tS,tS,tB,tI,.lst 4,.own 1,.own 1,tL,tB,tL,tB,tL,tB,tL,tB],[.obj 26,tI,tI,.lst 3,tI,tI,.lst 7,.lst 8,tL,tL,tL,tL,tS,tS,tB,tI,.lst 4,.own 1,.own 1,tL,tB,tL,tB,tL,tB,tL,tB,tB],[(2,[0,12,13,14],[.obj 26,tI,tI,.lst 3,tI,tI,.lst 7,.lst 8,tL,tL,tL,tL,tS,tS,tB,tI,.lst 4,.own 1,.own 1,tL,tB,tL,tB,tL,tB,tL,tB,.lst 8,tI,tI])]⟩),
(52,⟨[.obj 26,tI,tI,.lst 3,tI,tI,.lst 7,.lst 8,tL,tL,tL,tL,tS,tS,tB,tI,.lst 4,.own 1,.own 1,tL,tB,tL,tB,tL,tB,tL,tB],[.obj 26,tI,tI,.lst 3,tI,tI,.lst 7,.lst 8,tL,tL,tL,tL,tS,tS,tB,tI,.lst 4,.own 1,.own 1,tL,tB,tL,tB,tL,tB,tL,tB,tB],[]⟩),
(53,⟨[.obj 26,tI,tI,.lst 3,tI,tI,.lst 7,.lst 8,tL,tL,tL,tL,tS,tS,tB,tI,.lst 4,.own 1,.own 1,tL,tB,tL,tB,tL,tB,tL,tB],[.obj 26,tI,tI,.lst 3,tI,tI,.lst 7,.lst 8,tL,tL,tL,tL,tS,tS,tB,tI,.lst 4,.own 1,.own 1,tL,tB,tL,tB,tL,tB,tL,tB,tB],[]⟩),
(54,⟨[tL],[tK,tI],[(3,[0,3,4],[tL,tI,tI])]⟩),
(55,⟨[.agg 5,tI,tI,.lst 3,tI,tI,.lst 7,.lst 8,.agg 8,tL,tL,tL,tL,tS,tS,tB,tI],[tK,tK,tK,tK,tB],[(4,[4,7,9],[.obj 5,tI,tI,.lst 3,tI,tI,.obj 8,tL,tL,tL,tL,tS,tS,tB,tI,tI])]⟩),
(56,⟨[tL],[tK,tL,tB],[(3,[0,4,5],[tL,.own 1,tI])]⟩),
(57,⟨[.agg 5,tI,tI,.lst 3,tI,tI,.lst 7,.lst 4,.agg 8,tL,tL,tL,tL,tS,tS,tB,tI,tL],[tK,tK,tK,tK,tK,tB],[(2,[5,8,1,2,4,11],[.obj 5,tI,tI,.lst 3,tI,tI,.obj 8,tL,tL,tL,tL,tS,tS,tB,tI,.lst 7,.lst 4,tL,tI]),(7,[5,8,4,12],[.obj 5,tI,tI,.lst 3,tI,tI,.obj 8,tL,tL,tL,tL,tS,tS,tB,tI,tL,tI]),(12,[5,8,4,12,13],[.obj 5,tI,tI,.lst 3,tI,tI,.obj 8,tL,tL,tL,tL,tS,tS,tB,tI,tL,tI,tI])]⟩),
(58,⟨[.agg 5,tI,tI,.lst 3,tI,tI,.lst 7,.lst 8,.agg 8,tL,tL,tL,tL,tS,tS,tB,tI,.lst 4,tL],[tK,tK,tK,tK,tK,tK,tB],[(2,[6,9,1,2,4,5,13],[.obj 5,tI,tI,.lst 3,tI,tI,.obj 8,tL,tL,tL,tL,tS,tS,tB,tI,.lst 7,.lst 8,.lst 4,tL,tI]),(7,[6,9,1,2,4,5,13,14,15,16],[.obj 5,tI,tI,.lst 3,tI,tI,.obj 8,tL,tL,tL,tL,tS,tS,tB,tI,.lst 7,.lst 8,.lst 4,tL,tI,.lst 4,tL,tI]),(11,[6,9,17,1,2,4,5,13,14,15,16,18],[.obj 5,tI,tI,.lst 3,tI,tI,.obj 8,tL,tL,tL,tL,tS,tS,tB,tI,.obj 4,tB,tL,tB,tL,.lst 7,.lst 8,.lst 4,tL,tI,.lst 4,tL,tI,tI])]⟩),
(59,⟨[.lst 7,.lst 4,tL],[tK,tK,tK,tB],[(2,[0,1,2,7],[.lst 7,.lst 4,tL,tI])]⟩),
(60,⟨[.agg 5,tI,tI,.lst 3,tI,tI,tL,tL],[tK,tK,tK,tB],[(2,[3,1,2,7],[.obj 5,tI,tI,.lst 3,tI,tI,tL,tL,tI]),(5,[3,1,2,7,8],[.obj 5,tI,tI,.lst 3,tI,tI,tL,tL,tI,tI])]⟩),
(61,⟨[.agg 8,tS,tI,tI,tB,tI,tL,tI,tI,tL],[tK,tK,tS,tI],[(4,[2,1,6],[.obj 8,tS,tI,tI,tB,tI,tL,tI,tI,tL,tI]),(10,[2,7,1,8],[.obj 8,tS,tI,tI,tB,tI,tL,tI,tI,.obj 4,tB,tL,tB,tL,tL,tI])]⟩),
(62,⟨[.lst 7,tL,.lst 8,tL],[tK,tK,tK,tK,tS],[(6,[11,0,2,3,9,12],[.obj 4,tB,tL,tB,tL,.lst 7,.lst 8,tL,.lst 4,tI]),(10,[11,2,3,13],[.obj 4,tB,tL,tB,tL,.lst 8,tL,tI]),(13,[11,2,3,13,14],[.obj 4,tB,tL,tB,tL,.lst 8,tL,tI,tI])]⟩),
(63,⟨[.agg 5,tI,tI,.lst 3,tI,tI],[tK,tI],[]⟩),
(64,⟨[tI,tI,tI],[tK,tK,tK,tB],[]⟩),
(65,⟨[tI],[tK,tB],[]⟩),
(66,⟨[tL,.raw ((.func (.func 65) #[] #[]))],[tK,tK,tB],[]⟩),
(67,⟨[tL],[tK,tI],[(5,[0,3,4],[tL,tI,tI])]⟩),
(68,⟨[.lst 7,.raw ((.func (.func 69) #[] #[]))],[tK,tK,tB],[(2,[0,1,5],[.lst 7,.raw ((.func (.func 69) #[] #[])),tI])]⟩),
(69,⟨[.agg 7,tS,tI,tI,tI,tB,tI,tI],[tK,tS,tI],[]⟩),
(70,⟨[.lst 8,.raw ((.func (.func 71) #[] #[]))],[tK,tK,tB],[(2,[0,1,5],[.lst 8,.raw ((.func (.func 71) #[] #[])),tI])]⟩),
(71,⟨[.agg 8,tS,tI,tI,tB,tI,tL,tI,tI],[tK,tS,tI],[]⟩),
(72,⟨[.lst 8,tI],[tK,tK,tB],[(2,[0,1,8,9],[.lst 8,tI,tI,tI])]⟩),
(73,⟨[.agg 5,tI,tI,.lst 3,tI,tI],[tK,tI],[(4,[1,3],[.obj 5,tI,tI,.lst 3,tI,tI,tI])]⟩),
(74,⟨[tI,tI,tI],[tK,tK,tK,tB],[]⟩),
(75,⟨[.agg 5,tI,tI,.lst 3,tI,tI,.agg 8,tS,tI,tI,tB,tI,tL,tI,tI],[tK,tK,tB],[(5,[3,5,6],[.obj 8,tS,tI,tI,tB,tI,tL,tI,tI,tB,tI])]⟩),
(76,⟨[.lst 8,tI],[tK,tK,tI],[(4,[0,1,5],[.lst 8,tI,tI])]⟩),
(77,⟨[tS],[tK,.agg 2,tB,tL,tI],[]⟩),
(78,⟨[tS],[tK,.agg 1,tL,tI],[(4,[2,0,4],[.obj 1,tL,tS,tI]),(10,[2,0,5,6],[.obj 1,tL,tS,.own 1,tI]),(14,[2,0,5,6,7,8],[.obj 1,tL,tS,.own 1,tI,tI,tI])]⟩),
(79,⟨[.agg 2,tB,tL,.agg 2,tB,tL],[tK,tK,.agg 4,tB,tL,tB,tL,tI],[]⟩),
(80,⟨[tB,.agg 1,tL],[tK,tK,.agg 2,tB,tL],[]⟩),
(81,⟨[.own 1],[.own 1],[]⟩),
(82,⟨[tS,.agg 4,tL,tB,tL,tB,.obj 2,tL,tB,.obj 1,.own 2],[tK,tK,.obj 2,tL,tB,.obj 1,.own 2],[]⟩),
(83,⟨[.agg 4,tL,tB,tL,tB],[tK,.agg 2,tL,tB],[]⟩),
(84,⟨[.agg 2,tL,tB,.agg 2,tL,tB],[tK,tK,.agg 2,tL,tB],[]⟩),
(85,⟨[.agg 2,tL,tB],[tK,tS],[]⟩),
(86,⟨[.own 1],[tK,.own 1],[]⟩),
(87,⟨[tS],[tK,tB],[]⟩),
(88,⟨[.lst 7,.lst 8,.agg 8,tL,tL,tL,tL,tS,tS,tB,tI,tS],[tK,tK,tK,tK,.agg 4,tL,tB,tL,tB,tB],[]⟩),
(89,⟨[.agg 3,tI,tI,tI,.agg 8,tL,tL,tL,tL,tS,tS,tB,tI,tI],[tK,tK,tK,.agg 4,tL,tB,tL,tB,tB],[]⟩),
(90,⟨[tI],[tK,tS],[]⟩),
(91,⟨[.agg 4,tB,tL,tB,tL],[tK,.agg 2,tB,tL],[]⟩),
(92,⟨[.agg 4,tB,tL,tB,tL,.agg 4,tB,tL,tB,tL],[tK,tK,.agg 4,tB,tL,tB,tL],[]⟩),
(93,⟨[.agg 2,tB,tL,.agg 2,tB,tL],[tK,tK,.agg 2,tB,tL,.agg 2,tB,tL,tI],[]⟩),
(94,⟨[.agg 2,tB,tL],[tK,tI],[]⟩),
(95,⟨[.agg 2,tB,tL,.agg 2,tB,tL],[tK,tK,.agg 2,tB,tL],[]⟩),
(96,⟨[.agg 1,tL],[tK,tS],[(5,[1,3,4],[.obj 1,tL,.own 1,tI]),(9,[1,3,4,5,6],[.obj 1,tL,.own 1,tI,tI,tI]),(15,[3,7,8],[.own 1,.own 1,tI])]⟩),
(97,⟨[tS],[tK,tB],[]⟩),
(99,⟨[.agg 4,tL,tB,tL,tB,tB],[tK,tK,tS,tI],[]⟩),
(100,⟨[.agg 2,tB,tL,.agg 2,tB,tL],[tK,tK,tI],[]⟩),
(101,⟨[.agg 8,tL,tL,tL,tL,tS,tS,tB,tI,tI,tI],[tK,tK,tK,.agg 4,tB,tL,tB,tL,tB],[]⟩),
(102,⟨[.int .u64],[tK,.agg 1,tL],[(2,[2,0,3],[.obj 1,tL,.int .u64,.own 1])]⟩),
(103,⟨[.agg 1,tL,.agg 1,tL],[tK,tK,.agg 1,tL],[(5,[2,3,4,5,6],[.obj 1,tL,.obj 1,tL,.obj 1,tL,.own 1,tI]),(9,[2,3,4,5,6,7,8],[.obj 1,tL,.obj 1,tL,.obj 1,tL,.own 1,tI,tI,tI])]⟩),
(104,⟨[tL,.obj 1,tB],[tK,.obj 1,tB,.lst 4],[]⟩),
(105,⟨[tL],[tK,.lst 4,tB],[(3,[4,12,13,14],[.own 4,tL,tI,tI])]⟩),
(106,⟨[.agg 4,tL,tB,tL,tB,tI,tI],[tK,tK,tK,tB],[]⟩),
(107,⟨[.agg 4,tL,tB,tL,tB,.obj 1,.fpt 26],[tK,.obj 1,.fpt 26,tB],[]⟩),
(108,⟨[.agg 5,tI,tI,.lst 3,tI,tI,tL],[tK,tK,tB],[(5,[2,25,26,27],[.obj 5,tI,tI,.lst 3,tI,tI,.lst 4,tI,tI])]⟩),
(109,⟨[],[],[(1000107,[100109],[]),(1000114,[200109],[])]⟩),
(110,⟨[.agg 5,tI,tI,.lst 3,tI,tI,.lst 8,tL,tI],[tK,tK,tK,tK,tL],[(3,[1,3,9,24,25,26],[.lst 8,tI,.own 1,tL,tI,tI])]⟩),
(111,⟨[tI],[tK,.agg 4,tL,tB,tL,tB],[]⟩),
(112,⟨[.agg 4,tL,tB,tL,tB,.agg 4,tL,tB,tL,tB],[tK,tK,.agg 4,tL,tB,tL,tB],[]⟩),
(113,⟨[.agg 4,tL,tB,tL,tB,.agg 4,tL,tB,tL,tB],[tK,tK,.agg 4,tL,tB,tL,tB],[]⟩),
(114,⟨[.agg 4,tL,tB,tL,tB],[tK,tB],[]⟩),
(115,⟨[.agg 4,tL,tB,tL,tB],[tK,tI],[]⟩),
(116,⟨[.agg 4,tL,tB,tL,tB,.agg 4,tL,tB,tL,tB],[tK,tK,tI],[]⟩),
(117,⟨[.agg 8,tS,tI,tI,tB,tI,tL,tI,tI,tL],[tK,tK,tS,tI],[(6,[2,7,24,25,26],[.obj 8,tS,tI,tI,tB,tI,tL,tI,tI,.obj 4,tL,tB,tL,tB,tL,tI,tI])]⟩),
(118,⟨[tS],[tK,.agg 4,tL,tB,tL,tB,tI],[]⟩),
(119,⟨[.lst 7,tL,.lst 8,tL],[tK,tK,tK,tK,tS],[(5,[9,1,2,3,24,25,26],[.obj 4,tL,tB,tL,tB,tL,.lst 8,tL,.lst 7,tI,tI]),(13,[9,2,60,61,62],[.obj 4,tL,tB,tL,tB,.lst 8,tL,tI,tI]),(18,[9,16,2,60,61,62,74,75,76],[.obj 4,tL,tB,tL,tB,.obj 8,tS,tI,tI,tB,tI,tL,tI,tI,.lst 8,tL,tI,tI,tL,tI,tI])]⟩),
(120,⟨[tL],[tK,.lst 4,tI],[(3,[0,4,5],[tL,.own 4,tI])]⟩),
(121,⟨[.agg 5,tI,tI,.lst 3,tI,tI,tL],[tK,tK,tB],[(5,[2,5,7],[.obj 5,tI,tI,.lst 3,tI,tI,.lst 4,tI])]⟩),
(122,⟨[.agg 5,tI,tI,.lst 3,tI,tI,.lst 4],[tK,tK,.lst 4],[(3,[2,1,5,6],[.obj 5,tI,tI,.lst 3,tI,tI,.lst 4,.own 4,tI]),(7,[2,7,1,5,6,8],[.obj 5,tI,tI,.lst 3,tI,tI,.obj 4,tB,tL,tB,tL,.lst 4,.own 4,tI,tI])]⟩),
(123,⟨[.agg 5,tI,tI,.lst 3,tI,tI,.lst 8,tL,tI],[tK,tK,tK,tK,tL],[(3,[1,2,3,9,10],[.lst 8,tL,tI,.own 1,tI])]⟩),
(124,⟨[tB,tI],[tK,tK,tI],[]⟩),
(125,⟨[.agg 3,tI,tI,tI,.obj 5,tI,tI,.lst 3,tI,tI],[tK,.obj 5,tI,tI,.lst 3,tI,tI,tB],[]⟩),
(126,⟨[tI,tI,tI],[tK,tK,tK,tB],[]⟩),
(127,⟨[.lst 3,.clo (.func 125) 1,.obj 5,tI,tI,.lst 3,tI,tI],[tK,.clo (.func 125) 1,.obj 5,tI,tI,.lst 3,tI,tI,tB],[]⟩),
(128,⟨[tL,.raw ((.func (.func 65) #[] #[]))],[tK,tK,tI],[(2,[0,1,7,8],[tL,.raw ((.func (.func 65) #[] #[])),tI,tI])]⟩),
(129,⟨[tL],[tK,tI],[(3,[3,6,7,8],[tI,tL,tI,tI])]⟩),
(130,⟨[tS,tS],[tK,tK,tI],[]⟩),
(131,⟨[tI,tI],[tK,tK,tI],[]⟩),
(132,⟨[.lst 8,tI],[tK,tK,tI],[]⟩),
(133,⟨[tI,tI,tI],[tK,tK,tK,tB],[]⟩),
(134,⟨[tL],[tK,.agg 1,tL],[(1,[2,0],[.obj 1,tL,tL])]⟩),
(135,⟨[.agg 1,tL,.agg 1,tL],[tK,tK,.agg 1,tL],[(1,[2,3,4],[.obj 1,tL,.obj 1,tL,.obj 1,tL])]⟩),
(136,⟨[.agg 2,tB,tL,.agg 2,tB,tL],[tK,tK,.agg 2,tB,tL,.agg 2,tB,tL,tI],[]⟩),
(137,⟨[.own 1,tI,tI,tI],[.own 1,tK,tK,tK],[(2,[0,1,2,3,8,9],[.own 1,tI,tI,tI,tB,tB])]⟩),
(138,⟨[.int .u64],[tK,tI],[]⟩),
(139,⟨[.agg 2,tL,tB,.agg 2,tL,tB],[tK,tK,.agg 2,tL,tB,.agg 2,tL,tB,tI],[]⟩),
(140,⟨[.agg 4,tL,tB,tL,tB],[tK,.agg 2,tL,tB],[]⟩),
(141,⟨[.agg 2,tL,tB,.agg 2,tL,tB],[tK,tK,.agg 2,tL,tB],[]⟩),
(142,⟨[.agg 2,tL,tB,.agg 2,tL,tB],[tK,tK,tI],[]⟩),
(143,⟨[.agg 2,tL,tB,.agg 2,tL,tB],[tK,tK,.agg 2,tL,tB,.agg 2,tL,tB,tI],[]⟩),
(144,⟨[tI],[tK,.agg 2,tL,tB],[]⟩),
(145,⟨[.agg 2,tL,tB],[tK,tI],[]⟩),
(146,⟨[],[.agg 2,tL,tB],[]⟩),
(147,⟨[.agg 2,tL,tB],[tK,.agg 2,tL,tB],[]⟩),
(148,⟨[.agg 1,tL],[tK,tS],[(4,[1,3],[.obj 1,tL,.own 1])]⟩),
(149,⟨[.int .i32],[tK,tB],[]⟩),
(150,⟨[.lst 7,.clo (.func 151) 2,.obj 1,tS,.obj 8,tL,tL,tL,tL,tS,tS,tB,tI],[tK,.clo (.func 151) 2,.obj 1,tS,.obj 8,tL,tL,tL,tL,tS,tS,tB,tI,.agg 4,tL,tB,tL,tB,tB],[(3,[1,4,6,11,12,13],[.clo (.func 151) 2,.obj 1,tS,.obj 8,tL,tL,tL,tL,tS,tS,tB,tI,.obj 4,tL,tB,tL,tB,.obj 4,tL,tB,tL,tB,.lst 7,tI,tI])]⟩),
(151,⟨[tI,.agg 7,tS,tI,tI,tI,tB,tI,tI,.obj 1,tS,.obj 8,tL,tL,tL,tL,tS,tS,tB,tI],[tK,tK,.obj 1,tS,.obj 8,tL,tL,tL,tL,tS,tS,tB,tI,.agg 4,tL,tB,tL,tB,tB],[]⟩),
(152,⟨[.agg 8,tL,tL,tL,tL,tS,tS,tB,tI,tI,tI],[tK,tK,tK,.agg 4,tL,tB,tL,tB,tB],[]⟩),
(153,⟨[tB,.agg 4,tL,tB,tL,tB],[tK,tK,.agg 4,tL,tB,tL,tB],[]⟩),
(154,⟨[.agg 4,tL,tB,tL,tB,.agg 4,tL,tB,tL,tB],[tK,tK,.agg 4,tL,tB,tL,tB],[]⟩),
(155,⟨[.lst 8,.clo (.func 156) 2,.obj 1,tS,.obj 8,tL,tL,tL,tL,tS,tS,tB,tI],[tK,.clo (.func 156) 2,.obj 1,tS,.obj 8,tL,tL,tL,tL,tS,tS,tB,tI,.agg 4,tL,tB,tL,tB,tB],[(3,[1,4,6,11,12,13],[.clo (.func 156) 2,.obj 1,tS,.obj 8,tL,tL,tL,tL,tS,tS,tB,tI,.obj 4,tL,tB,tL,tB,.obj 4,tL,tB,tL,tB,.lst 8,tI,tI])]⟩),
(156,⟨[tI,.agg 8,tS,tI,tI,tB,tI,tL,tI,tI,.obj 1,tS,.obj 8,tL,tL,tL,tL,tS,tS,tB,tI],[tK,tK,.obj 1,tS,.obj 8,tL,tL,tL,tL,tS,tS,tB,tI,.agg 4,tL,tB,tL,tB,tB],[]⟩),
(157,⟨[tL,.clo (.func 158) 2,.obj 8,tL,tL,tL,tL,tS,tS,tB,tI,.obj 8,tS,tI,tI,tB,tI,tL,tI,tI],[tK,.clo (.func 158) 2,.obj 8,tL,tL,tL,tL,tS,tS,tB,tI,.obj 8,tS,tI,tI,tB,tI,tL,tI,tI,.agg 4,tL,tB,tL,tB,tB],[(3,[1,4,6,11,12,13],[.clo (.func 158) 2,.obj 8,tL,tL,tL,tL,tS,tS,tB,tI,.obj 8,tS,tI,tI,tB,tI,tL,tI,tI,.obj 4,tL,tB,tL,tB,.obj 4,tL,tB,tL,tB,tL,tI,tI])]⟩),
(158,⟨[tI,tI,.obj 8,tL,tL,tL,tL,tS,tS,tB,tI,.obj 8,tS,tI,tI,tB,tI,tL,tI,tI],[tK,tK,.obj 8,tL,tL,tL,tL,tS,tS,tB,tI,.obj 8,tS,tI,tI,tB,tI,tL,tI,tI,.agg 4,tL,tB,tL,tB,tB],[]⟩),
(159,⟨[tL,.clo (.func 160) 3,.obj 1,tI,.obj 8,tL,tL,tL,tL,tS,tS,tB,tI,.obj 3,tI,tI,tI],[tK,.clo (.func 160) 3,.obj 1,tI,.obj 8,tL,tL,tL,tL,tS,tS,tB,tI,.obj 3,tI,tI,tI,.agg 4,tL,tB,tL,tB,tB],[(3,[1,4,6,11,12,13],[.clo (.func 160) 3,.obj 1,tI,.obj 8,tL,tL,tL,tL,tS,tS,tB,tI,.obj 3,tI,tI,tI,.obj 4,tL,tB,tL,tB,.obj 4,tL,tB,tL,tB,tL,tI,tI])]⟩),
(160,⟨[tI,tL,.obj 1,tI,.obj 8,tL,tL,tL,tL,tS,tS,tB,tI,.obj 3,tI,tI,tI],[tK,tK,.obj 1,tI,.obj 8,tL,tL,tL,tL,tS,tS,tB,tI,.obj 3,tI,tI,tI,.agg 4,tL,tB,tL,tB,tB],[]⟩),
(161,⟨[tI],[tK,tS],[]⟩),
(162,⟨[.agg 2,tB,tL,.agg 2,tB,tL],[tK,tK,.agg 2,tB,tL],[]⟩),
(163,⟨[.agg 1,tL,.agg 1,tL],[tK,tK,.agg 1,tL],[(4,[2,3,4,5,6,7],[.obj 1,tL,.obj 1,tL,.obj 1,tL,.own 1,tI,tI])]⟩),
(164,⟨[.agg 1,tL,.agg 1,tL],[tK,tK,tI],[(2,[2,3,5],[.obj 1,tL,.obj 1,tL,tI])]⟩),
(165,⟨[.agg 1,tL,.agg 1,tL],[tK,tK,.agg 1,tL,tI],[(6,[2,3,4,6,7,8],[.obj 1,tL,.obj 1,tL,.obj 1,tL,.own 1,tI,tI])]⟩),
(166,⟨[.int .i32],[tK,tI],[]⟩),
(167,⟨[.agg 4,tL,tB,tL,tB],[tK,tS],[]⟩),
(168,⟨[tL],[tK,.lst 4,tB],[(3,[4,12,13,14],[.own 4,tL,tI,tI])]⟩),
(169,⟨[.agg 4,tL,tB,tL,tB],[tK,.agg 4,tL,tB,tL,tB],[]⟩),
(170,⟨[],[],[(1000107,[100170],[]),(1000114,[200170],[])]⟩),
(171,⟨[tB],[tK,tI],[]⟩),
(172,⟨[.agg 4,tL,tB,tL,tB,.agg 4,tL,tB,tL,tB,.fn],[tK,tK,tK,.agg 4,tL,tB,tL,tB],[]⟩),
(173,⟨[.agg 2,tL,tB,.agg 2,tL,tB],[tK,tK,.agg 2,tL,tB],[]⟩),
(174,⟨[tL,.obj 8,tS,tI,tI,tB,tI,tL,tI,tI],[tK,.obj 8,tS,tI,tI,tB,tI,tL,tI,tI,tB],[]⟩),
(175,⟨[tL,.clo (.func 174) 1,.obj 8,tS,tI,tI,tB,tI,tL,tI,tI],[tK,.clo (.func 174) 1,.obj 8,tS,tI,tI,tB,tI,tL,tI,tI,tB],[]⟩),
(176,⟨[tS,tS],[tK,tK,tS,tS,tB],[]⟩),
(177,⟨[tS],[tK,.agg 2,tL,tB,tI],[]⟩),
(178,⟨[.agg 2,tL,tB,.agg 2,tL,tB],[tK,tK,.agg 4,tL,tB,tL,tB,tI],[]⟩),
(179,⟨[.lst 3,.clo (.func 125) 1,.obj 5,tI,tI,.lst 3,tI,tI],[tK,.clo (.func 125) 1,.obj 5,tI,tI,.lst 3,tI,tI,tI],[(2,[1,0,7,8],[.clo (.func 125) 1,.obj 5,tI,tI,.lst 3,tI,tI,.lst 3,tI,tI])]⟩),
(180,⟨[tS],[tK,tB],[]⟩),
(181,⟨[tI],[tK,tB],[]⟩),
(182,⟨[.lst 8,.clo (.func 183) 2,.obj 1,.lst 8,.obj 1,tI],[tK,.clo (.func 183) 2,.obj 1,.lst 8,.obj 1,tI,tI],[(2,[1,0,7,8],[.clo (.func 183) 2,.obj 1,.lst 8,.obj 1,tI,.lst 8,tI,tI])]⟩),
(183,⟨[.agg 8,tS,tI,tI,tB,tI,tL,tI,tI,.obj 1,.lst 8,.obj 1,tI],[tK,.obj 1,.lst 8,.obj 1,tI,tB],[]⟩),
(184,⟨[.int .u64,.int .u64],[tK,tK,.int .u64],[(1,[0,1],[.int .u64,.int .u64])]⟩),
(185,⟨[.agg 1,tL],[tK,.int .u64],[(3,[1,3,4],[.obj 1,tL,.int .u64,tI])]⟩),
(186,⟨[.agg 1,tL,.agg 1,tL],[tK,tK,.agg 1,tL,.agg 1,tL,tI],[(9,[2,3,4,5,10,9,11],[.obj 1,tL,.obj 1,tL,.obj 1,tL,.obj 1,tL,.obj 1,tL,.own 1,tI])]⟩),
(187,⟨[.own 1,tI,tI],[.own 1,tK,tK],[(1,[0,1,2,6],[.own 1,tI,tI,tI]),(4,[0,1,2,6,7],[.own 1,tI,tI,tI,tI])]⟩),
(188,⟨[.own 1,tI,tI],[.own 1,tK,tK],[(4,[0,6,7,8,9],[.own 1,tI,tI,tI,tI]),(8,[0,6,7,10],[.own 1,tI,tI,tI])]⟩),
(189,⟨[.own 1,tI,tI],[.own 1,tK,tK],[(5,[0,7,1,6,8,9],[.own 1,.obj 1,.int .u64,tI,tI,.int .u64,tI])]⟩),
(190,⟨[tL,tI,tI],[tK,tK,tK,tI,tI],[]⟩),
(191,⟨[.own 1,tI,tI],[.own 1,tK,tK],[(2,[0,6,7],[.own 1,tI,tI])]⟩),
(192,⟨[.own 1,tI,tI],[.own 1,tK,tK,tB],[(3,[0,1,2,7,8],[.own 1,tI,tI,tI,tI]),(5,[0,1,2,7,8],[.own 1,tI,tI,tI,tI]),(14,[0,1,2,7,8,9],[.own 1,tI,tI,tI,tI,tI]),(20,[0,1,2,7,8,10],[.own 1,tI,tI,tI,tI,tI])]⟩),
(193,⟨[tS,tS],[tK,tK,tB],[]⟩),
(194,⟨[.own 1,tI,tI,tI],[.own 1,tK,tK,tK,tI],[(3,[0,1,9,10],[.own 1,tI,tI,tI]),(5,[0,1,9,10],[.own 1,tI,tI,tI])]⟩),
(195,⟨[.own 1,tI,tI,tI],[.own 1,tK,tK,tK,tI,tB],[(3,[0,1,10,11],[.own 1,tI,tI,tI]),(5,[0,1,10,11],[.own 1,tI,tI,tI]),(13,[0,1,10,11],[.own 1,tI,tI,tI]),(15,[0,1,10,11],[.own 1,tI,tI,tI])]⟩),
(196,⟨[.int .u32],[tK,tI],[]⟩),
(197,⟨[.int .u64],[tK,tI],[]⟩),
(198,⟨[.agg 2,tL,tB],[tK,tB],[]⟩),
(199,⟨[tB,.agg 1,tL],[tK,tK,.agg 2,tL,tB],[]⟩),
(200,⟨[.agg 1,tL,.agg 1,tL],[tK,tK,.agg 1,tL],[(6,[2,3,4,5,6,24,25,26],[.obj 1,tL,.obj 1,tL,.obj 1,tL,.own 1,.int .u64,tL,tI,tI])]⟩),
(201,⟨[.agg 1,tL,.agg 1,tL],[tK,tK,.agg 1,tL,tI],[(6,[3,4,6,7,19,20],[.obj 1,tL,.obj 1,tL,.own 1,.int .u32,tI,tI])]⟩),
(202,⟨[.agg 1,tL,.agg 1,tL],[tK,tK,tI],[(6,[2,3,5],[.obj 1,tL,.obj 1,tL,tI])]⟩),
(203,⟨[.agg 1,tL,.agg 1,tL],[tK,tK,.agg 1,tL,.agg 1,tL,tI],[(13,[4,5,9,10,11,12,13,14],[.obj 1,tL,.obj 1,tL,tI,.int .u64,tL,.own 1,.own 1,tI]),(18,[4,5,9,10,11,12,13,14,16,17],[.obj 1,tL,.obj 1,tL,tI,.int .u64,tL,.own 1,.own 1,tI,.int .u64,.int .u64]),(23,[4,5,9,10,11,12,13,14,16,18,19,158,159],[.obj 1,tL,.obj 1,tL,tI,.int .u64,tL,.own 1,.own 1,tI,.int .u64,.int .u32,.int .u64,tI,tI]),(35,[4,5,9,10,11,12,13,14,21,223,224],[.obj 1,tL,.obj 1,tL,tI,.int .u64,tL,.own 1,.own 1,tI,.int .u32,tI,tI]),(42,[4,5,10,12,13,23,259,260],[.obj 1,tL,.obj 1,tL,.int .u64,.own 1,.own 1,.own 1,tI,tI])]⟩),
(204,⟨[.int .u64],[tK,.agg 1,tL],[]⟩),
(205,⟨[.agg 1,tL,.int .u32],[tK,tK,.agg 1,tL,.int .u32],[(4,[2,4,1,6,7,8],[.obj 1,tL,.obj 1,tL,.int .u32,.own 1,.int .u64,tI])]⟩),
(206,⟨[.int .u64,tI],[tK,tK,tS],[]⟩),
(207,⟨[tS,tI],[tK,tK,tS],[]⟩),
(208,⟨[.own 1],[.own 1],[(1,[0,2,3],[.own 1,tI,tI])]⟩),
(209,⟨[tL,tS],[tK,tK,tS],[]⟩),
(210,⟨[tI,tI],[tK,tK,tS],[]⟩),
(211,⟨[tL,tI],[tK,tK,tI],[]⟩),
(212,⟨[.agg 1,tL,.agg 1,tL],[tK,tK,.agg 1,tL],[(3,[3,4,5,20,21,22],[.obj 1,tL,.obj 1,tL,.own 1,tL,tI,tI]),(7,[3,4,5,6,7,8,20,21,22,28,29,30],[.obj 1,tL,.obj 1,tL,.own 1,tI,.int .u32,.int .u64,tL,tI,tI,tL,tI,tI])]⟩),
(213,⟨[tL,.clo (.func 174) 1,.obj 8,tS,tI,tI,tB,tI,tL,tI,tI],[tK,.clo (.func 174) 1,.obj 8,tS,tI,tI,tB,tI,tL,tI,tI,tI],[(2,[1,0,7,8],[.clo (.func 174) 1,.obj 8,tS,tI,tI,tB,tI,tL,tI,tI,tL,tI,tI])]⟩),
(214,⟨[tS,tS],[tK,tK,tS,tS,tB],[]⟩),
(215,⟨[tS,tS],[tK,tK,tS,tB],[]⟩),
(216,⟨[tS],[tK,.agg 1,tL,tI],[(4,[2,4,0],[.obj 1,tL,.obj 1,tL,tS]),(8,[2,4,0,5,6,33,34],[.obj 1,tL,.obj 1,tL,tS,tI,.int .u32,tI,tI])]⟩),
(217,⟨[.agg 1,tL],[tK,tI],[]⟩),
(218,⟨[.agg 2,tL,tB],[tK,.agg 1,tL],[]⟩),
(219,⟨[.agg 1,tL,.agg 1,tL],[tK,tK,.agg 1,tL],[(1,[2,3,4],[.obj 1,tL,.obj 1,tL,.obj 1,tL]),(4,[4,5,6],[.obj 1,tL,.int .u64,.int .u64])]⟩),
(220,⟨[.agg 1,tL,tI],[tK,tK,.agg 1,tL,.agg 1,tL],[(4,[2,4,5,1,6,7,8],[.obj 1,tL,.obj 1,tL,.obj 1,tL,tI,.own 1,tI,tI])]⟩),
(221,⟨[.agg 1,tL,tI],[tK,tK,.agg 1,tL],[]⟩),
(222,⟨[.agg 1,tL,.agg 1,tL],[tK,tK,tI],[(3,[2,3,5,6],[.obj 1,tL,.obj 1,tL,tI,tI])]⟩),
(223,⟨[.agg 1,tL,tI,tI],[tK,tK,tK,.agg 1,tL],[(3,[3,6,1,2,7,8],[.obj 1,tL,.obj 1,tL,tI,tI,.own 1,tI])]⟩),
(224,⟨[.own 1,tI,tI,tI],[.own 1,tK,tK,tK],[(1,[0,2,3,8],[.own 1,tI,tI,tI])]⟩),
(225,⟨[tI],[tK,.int .u64],[]⟩),
(226,⟨[.obj 1,.int .u64],[.obj 1,.int .u64,.int .u64],[]⟩),
(227,⟨[tL,tI,.obj 1,tI],[tK,tK,.obj 1,tI,tI],[]⟩),
(228,⟨[tL,tI,tI,tI,.obj 1,tI],[tK,tK,tK,tK,.obj 1,tI,tI],[]⟩),
(229,⟨[tL],[tK,.agg 1,tL],[(1,[2,0],[.obj 1,tL,tL])]⟩),
(230,⟨[tL],[tK,.own 1],[]⟩),
(231,⟨[.int .u32,.int .u32,.int .u32],[tK,tK,tK,.int .u32,.int .u32],[]⟩),
(232,⟨[.int .u32],[tK,tI],[]⟩),
(233,⟨[.agg 1,tL,.int .u64],[tK,tK,.own 1],[(3,[1,5,15,16,17],[.int .u64,.own 1,tL,tI,tI])]⟩),
(234,⟨[.int .u32,.int .u32,.int .u32],[tK,tK,tK,.int .u32,.int .u32],[]⟩),
(235,⟨[.int .u64,tI],[tK,tK,tS],[]⟩),
(236,⟨[.int .u64,.int .u64],[tK,tK,.int .u64,.int .u64],[]⟩),
(237,⟨[tS,tS],[tK,tK,tB],[]⟩),
(242,⟨[tI],[tK,tS],[]⟩),
(243,⟨[.int .u64],[tK,tI],[]⟩),
(244,⟨[.own 1,.int .u64],[.own 1,tK],[(1,[0,1,4],[.own 1,.int .u64,tI])]⟩),
(246,⟨[tS,tS],[tK,tK,tI],[(15,[0,1,5,6,7,8,9,10],[tS,tS,tI,.int .u8,.int .u8,tI,tI,tI])]⟩),
(247,⟨[tS,tS],[tK,tK,tS,tB],[]⟩),
(248,⟨[tS,tS],[tK,tK,tS],[]⟩),
(249,⟨[tS,tI,tI],[tK,tK,tK,.int .u64,.raw (.nilIface)],[]⟩),
(250,⟨[.agg 1,tL,.int .u32,.int .u32],[tK,tK,tK,.agg 1,tL],[(4,[3,6,1,7,8,19,20,21],[.obj 1,tL,.obj 1,tL,.int .u32,.own 1,.int .u64,tL,tI,tI])]⟩),
(251,⟨[.agg 1,tL],[tK,.int .u64],[(3,[3,7,8,9],[.int .u64,tL,tI,tI])]⟩),
(252,⟨[tL,tI,tI,.obj 1,tI],[tK,tK,tK,.obj 1,tI,tI,tI],[]⟩),
(253,⟨[.int .u32,.int .u32],[tK,tK,.int .u32,.int .u32],[]⟩),
(254,⟨[.int .u64,.int .u64],[tK,tK,.int .u64,.int .u64],[]⟩),
(255,⟨[tS,tS],[tK,tK,tB],[]⟩),
(258,⟨[tI],[tK,tI],[]⟩),
(259,⟨[tB],[tK,tI],[]⟩),
(260,⟨[tI],[tK,tB],[]⟩),
(262,⟨[tS,.int .u8],[tK,tK,tI],[]⟩),
(264,⟨[tI],[tK,tI],[]⟩),
(266,⟨[tS,.int .u8],[tK,tK,tS],[(1,[0,1],[tS,.int .u8])]⟩),
(267,⟨[tS,.int .u8],[tK,tK,tS],[(1,[0,1],[tS,.int .u8])]⟩),
(271,⟨[tS,tS],[tK,tK,tS],[(1,[0,1],[tS,tS])]⟩),
(272,⟨[tS,tS],[tK,tK,tS],[(1,[0,1],[tS,tS])]⟩),
(277,⟨[.int .u32],[tK,tI],[]⟩),
(282,⟨[tS],[tK,.int .i32,tI],[]⟩),
(283,⟨[tS,.int .i32],[tK,tK,tB],[]⟩),
(284,⟨[tS],[tK,.int .i32,tI],[(10,[0,4,5,6],[tS,tI,tI,tI])]⟩),
(285,⟨[.int .u8],[tK,.int .u8],[]⟩),
(286,⟨[tS],[tK,tB],[(10,[0,3,4,5],[tS,.int .i32,tI,tB])]⟩),
(291,⟨[tS],[tK,.int .i32,tI],[]⟩),
(293,⟨[.int .u8],[tK,tB],[]⟩),
(296,⟨[tS,.int .u8],[tK,tK,tI],[]⟩),
(297,⟨[.int .i32],[tK,tB],[]⟩),
(100109,⟨[.lst 4,.clo (.func 107) 1,.obj 1,.fpt 26],[tK,.clo (.func 107) 1,.obj 1,.fpt 26,tB],[]⟩),
(200109,⟨[.lst 4,.raw ((.func (.func 114) #[] #[]))],[tK,tK,tB],[]⟩),
(100170,⟨[.lst 4,.clo (.func 107) 1,.obj 1,.fpt 26],[tK,.clo (.func 107) 1,.obj 1,.fpt 26,tI],[(2,[1,0,7,8],[.clo (.func 107) 1,.obj 1,.fpt 26,.lst 4,tI,tI])]⟩),
(200170,⟨[.lst 4,.raw ((.func (.func 114) #[] #[]))],[tK,tK,tI],[(2,[0,1,7,8],[.lst 4,.raw ((.func (.func 114) #[] #[])),tI,tI])]⟩),
(100046,⟨[.fpt 26],[tK,tB],[(2,[1,10,11,12],[.obj 1,.fpt 26,.lst 7,tI,tI]),(9,[1,34,35,5],[.obj 1,.fpt 26,tI,tI,.clo (.func 107) 1,.ref 0])]⟩)]
noncomputable def fcL:List (Nat×Func):=[
(2,f2),
(3,f3),
(4,f4),
(5,f5),
(6,f6),
(7,f7),
(8,f8),
(9,f9),
(10,f10),
(11,f11),
(12,f12),
(13,f13),
(14,f14),
(15,f15),
(16,f16),
(17,f17),
(18,f18),
(19,f19),
(20,f20),
(21,f21),
(22,f22),
(23,f23),
(24,f24),
(25,f25),
(26,f26),
(27,f27),
(28,f28),
(29,f29),
(31,f31),
(32,f32),
(33,f33),
(35,f35),
(36,f36),
(37,f37),
(38,f38),
(39,f39),
(40,f40),
(41,f41),
(42,f42),
(43,f43),
(44,f44),
(45,f45),
(46,f46),
(47,f47),
(48,f48),
(49,f49),
(50,f50),
(51,f51),
(52,f52),
(53,f53),
(54,f54),
(55,f55),
(56,f56),
(57,f57),
(58,f58),
(59,f59),
(60,f60),
(61,f61),
(62,f62),
(63,f63),
(64,f64),
(65,f65),
(66,f66),
(67,f67),
(68,f68),
(69,f69),
(70,f70),
(71,f71),
(72,f72),
(73,f73),
(74,f74),
(75,f75),
(76,f76),
(77,f77),
(78,f78),
(79,f79),
(80,f80),
(81,f81),
(82,f82),
(83,f83),
(84,f84),
(85,f85),
(86,f86),
(87,f87),
(88,f88),
(89,f89),
(90,f90),
(91,f91),
(92,f92),
(93,f93),
(94,f94),
(95,f95),
(96,f96),
(97,f97),
(99,f99),
(100,f100),
(101,f101),
(102,f102),
(103,f103),
(104,f104),
(105,f105),
(106,f106),
(107,f107),
(108,f108),
(110,f110),
(111,f111),
(112,f112),
(113,f113),
(114,f114),
(115,f115),
(116,f116),
(117,f117),
(118,f118),
(119,f119),
(120,f120),
(121,f121),
(122,f122),
(123,f123),
(124,f124),
(125,f125),
(126,f126),
(127,f127),
(128,f128),
(129,f129),
(130,f130),
(131,f131),
(132,f132),
(133,f133),
(134,f134),
(135,f135),
(136,f136),
(137,f137),
(138,f138),
(139,f139),
(140,f140),
(141,f141),
(142,f142),
(143,f143),
(144,f144),
(145,f145),
(146,f146),
(147,f147),
(148,f148),
(149,f149),
(150,f150),
(151,f151),
(152,f152),
(153,f153),
(154,f154),
(155,f155),
(156,f156),
(157,f157),
(158,f158),
(159,f159),
(160,f160),
(161,f161),
(162,f162),
(163,f163),
(164,f164),
(165,f165),
(166,f166),
(167,f167),
(168,f168),
(169,f169),
(171,f171),
(172,f172),
(173,f173),
(174,f174),
(175,f175),
(176,f176),
(177,f177),
(178,f178),
(179,f179),
(180,f180),
(181,f181),
(182,f182),
(183,f183),
(184,f184),
(185,f185),
(186,f186),
(187,f187),
(188,f188),
(189,f189),
(190,f190),
(191,f191),
(192,f192),
(193,f193),
(194,f194),
(195,f195),
(196,f196),
(197,f197),
(198,f198),
(199,f199),
(200,f200),
(201,f201),
(202,f202),
(203,f203),
(204,f204),
(205,f205),
(206,f206),
(207,f207),
(208,f208),
(209,f209),
(210,f210),
(211,f211),
(212,f212),
(213,f213),
(214,f214),
(215,f215),
(216,f216),
(217,f217),
(218,f218),
(219,f219),
(220,f220),
(221,f221),
(222,f222),
(223,f223),
(224,f224),
(225,f225),
(226,f226),
(227,f227),
(228,f228),
(229,f229),
(230,f230),
(231,f231),
(232,f232),
(233,f233),
(234,f234),
(235,f235),
(236,f236),
(237,f237),
(242,f242),
(243,f243),
(244,f244),
(246,f246),
(247,f247),
(248,f248),
(249,f249),
(250,f250),
(251,f251),
(252,f252),
(253,f253),
(254,f254),
(255,f255),
(258,f258),
(259,f259),
(260,f260),
(262,f262),
(264,f264),
(266,f266),
(267,f267),
(271,f271),
(272,f272),
(277,f277),
(282,f282),
(283,f283),
(284,f284),
(285,f285),
(286,f286),
(291,f291),
(293,f293),
(296,f296),
(297,f297),
(100109,f109),
(200109,f109),
(100170,f170),
(200170,f170),
(100046,f46)]
def tyT:Nat->Option TyI:=λt=>lookN t tyL
def fnT:Nat->Option FnI:=λt=>lookN t fnL
noncomputable def fcT:Nat->Option Func:=λt=>lookN t fcL
noncomputable def En:Env:=⟨Go.Proofs.Tryz.prog,fcT,tyT,fnT,extT⟩
end Rf
end
section
set_option maxRecDepth 100000
namespace Rf
open Go
open Go.Proofs.Tryz
theorem qcp:tyL.all (λp=>chkTy Go.Proofs.Tryz.prog p.1 p.2)=true:=by kernel_rfl
theorem qcs:FcOk Go.Proofs.Tryz.prog fcL :=
⟨⟨func2,by kernel_rfl⟩,
⟨⟨func3,by kernel_rfl⟩,
⟨⟨func4,by kernel_rfl⟩,
⟨⟨func5,by kernel_rfl⟩,
⟨⟨func6,by kernel_rfl⟩,
⟨⟨func7,by kernel_rfl⟩,
⟨⟨func8,by kernel_rfl⟩,
⟨⟨func9,by kernel_rfl⟩,
⟨⟨func10,by kernel_rfl⟩,
⟨⟨func11,by kernel_rfl⟩,
⟨⟨func12,by kernel_rfl⟩,
⟨⟨func13,by kernel_rfl⟩,
⟨⟨func14,by kernel_rfl⟩,
⟨⟨func15,by kernel_rfl⟩,
⟨⟨func16,by kernel_rfl⟩,
⟨⟨func17,by kernel_rfl⟩,
⟨⟨func18,by kernel_rfl⟩,
⟨⟨func19,by kernel_rfl⟩,
⟨⟨func20,by kernel_rfl⟩,
⟨⟨func21,by kernel_rfl⟩,
⟨⟨func22,by kernel_rfl⟩,
⟨⟨func23,by kernel_rfl⟩,
⟨⟨func24,by kernel_rfl⟩,
⟨⟨func25,by kernel_rfl⟩,
⟨⟨func26,by kernel_rfl⟩,
⟨⟨func27,by kernel_rfl⟩,
⟨⟨func28,by kernel_rfl⟩,
⟨⟨func29,by kernel_rfl⟩,
⟨⟨func31,by kernel_rfl⟩,
⟨⟨func32,by kernel_rfl⟩,
⟨⟨func33,by kernel_rfl⟩,
⟨⟨func35,by kernel_rfl⟩,
⟨⟨func36,by kernel_rfl⟩,
⟨⟨func37,by kernel_rfl⟩,
⟨⟨func38,by kernel_rfl⟩,
⟨⟨func39,by kernel_rfl⟩,
⟨⟨func40,by kernel_rfl⟩,
⟨⟨func41,by kernel_rfl⟩,
⟨⟨func42,by kernel_rfl⟩,
⟨⟨func43,by kernel_rfl⟩,
⟨⟨func44,by kernel_rfl⟩,
⟨⟨func45,by kernel_rfl⟩,
⟨⟨func46,by kernel_rfl⟩,
⟨⟨func47,by kernel_rfl⟩,
⟨⟨func48,by kernel_rfl⟩,
⟨⟨func49,by kernel_rfl⟩,
⟨⟨func50,by kernel_rfl⟩,
⟨⟨func51,by kernel_rfl⟩,
⟨⟨func52,by kernel_rfl⟩,
⟨⟨func53,by kernel_rfl⟩,
⟨⟨func54,by kernel_rfl⟩,
⟨⟨func55,by kernel_rfl⟩,
⟨⟨func56,by kernel_rfl⟩,
⟨⟨func57,by kernel_rfl⟩,
⟨⟨func58,by kernel_rfl⟩,
⟨⟨func59,by kernel_rfl⟩,
⟨⟨func60,by kernel_rfl⟩,
⟨⟨func61,by kernel_rfl⟩,
⟨⟨func62,by kernel_rfl⟩,
⟨⟨func63,by kernel_rfl⟩,
⟨⟨func64,by kernel_rfl⟩,
⟨⟨func65,by kernel_rfl⟩,
⟨⟨func66,by kernel_rfl⟩,
⟨⟨func67,by kernel_rfl⟩,
⟨⟨func68,by kernel_rfl⟩,
⟨⟨func69,by kernel_rfl⟩,
⟨⟨func70,by kernel_rfl⟩,
⟨⟨func71,by kernel_rfl⟩,
⟨⟨func72,by kernel_rfl⟩,
⟨⟨func73,by kernel_rfl⟩,
⟨⟨func74,by kernel_rfl⟩,
⟨⟨func75,by kernel_rfl⟩,
⟨⟨func76,by kernel_rfl⟩,
⟨⟨func77,by kernel_rfl⟩,
⟨⟨func78,by kernel_rfl⟩,
⟨⟨func79,by kernel_rfl⟩,
⟨⟨func80,by kernel_rfl⟩,
⟨⟨func81,by kernel_rfl⟩,
⟨⟨func82,by kernel_rfl⟩,
⟨⟨func83,by kernel_rfl⟩,
⟨⟨func84,by kernel_rfl⟩,
⟨⟨func85,by kernel_rfl⟩,
⟨⟨func86,by kernel_rfl⟩,
⟨⟨func87,by kernel_rfl⟩,
⟨⟨func88,by kernel_rfl⟩,
⟨⟨func89,by kernel_rfl⟩,
⟨⟨func90,by kernel_rfl⟩,
⟨⟨func91,by kernel_rfl⟩,
⟨⟨func92,by kernel_rfl⟩,
⟨⟨func93,by kernel_rfl⟩,
⟨⟨func94,by kernel_rfl⟩,
⟨⟨func95,by kernel_rfl⟩,
⟨⟨func96,by kernel_rfl⟩,
⟨⟨func97,by kernel_rfl⟩,
⟨⟨func99,by kernel_rfl⟩,
⟨⟨func100,by kernel_rfl⟩,
⟨⟨func101,by kernel_rfl⟩,
⟨⟨func102,by kernel_rfl⟩,
⟨⟨func103,by kernel_rfl⟩,
⟨⟨func104,by kernel_rfl⟩,
⟨⟨func105,by kernel_rfl⟩,
⟨⟨func106,by kernel_rfl⟩,
⟨⟨func107,by kernel_rfl⟩,
⟨⟨func108,by kernel_rfl⟩,
⟨⟨func110,by kernel_rfl⟩,
⟨⟨func111,by kernel_rfl⟩,
⟨⟨func112,by kernel_rfl⟩,
⟨⟨func113,by kernel_rfl⟩,
⟨⟨func114,by kernel_rfl⟩,
⟨⟨func115,by kernel_rfl⟩,
⟨⟨func116,by kernel_rfl⟩,
⟨⟨func117,by kernel_rfl⟩,
⟨⟨func118,by kernel_rfl⟩,
⟨⟨func119,by kernel_rfl⟩,
⟨⟨func120,by kernel_rfl⟩,
⟨⟨func121,by kernel_rfl⟩,
⟨⟨func122,by kernel_rfl⟩,
⟨⟨func123,by kernel_rfl⟩,
⟨⟨func124,by kernel_rfl⟩,
⟨⟨func125,by kernel_rfl⟩,
⟨⟨func126,by kernel_rfl⟩,
⟨⟨func127,by kernel_rfl⟩,
⟨⟨func128,by kernel_rfl⟩,
⟨⟨func129,by kernel_rfl⟩,
⟨⟨func130,by kernel_rfl⟩,
⟨⟨func131,by kernel_rfl⟩,
⟨⟨func132,by kernel_rfl⟩,
⟨⟨func133,by kernel_rfl⟩,
⟨⟨func134,by kernel_rfl⟩,
⟨⟨func135,by kernel_rfl⟩,
⟨⟨func136,by kernel_rfl⟩,
⟨⟨func137,by kernel_rfl⟩,
⟨⟨func138,by kernel_rfl⟩,
⟨⟨func139,by kernel_rfl⟩,
⟨⟨func140,by kernel_rfl⟩,
⟨⟨func141,by kernel_rfl⟩,
⟨⟨func142,by kernel_rfl⟩,
⟨⟨func143,by kernel_rfl⟩,
⟨⟨func144,by kernel_rfl⟩,
⟨⟨func145,by kernel_rfl⟩,
⟨⟨func146,by kernel_rfl⟩,
⟨⟨func147,by kernel_rfl⟩,
⟨⟨func148,by kernel_rfl⟩,
⟨⟨func149,by kernel_rfl⟩,
⟨⟨func150,by kernel_rfl⟩,
⟨⟨func151,by kernel_rfl⟩,
⟨⟨func152,by kernel_rfl⟩,
⟨⟨func153,by kernel_rfl⟩,
⟨⟨func154,by kernel_rfl⟩,
⟨⟨func155,by kernel_rfl⟩,
⟨⟨func156,by kernel_rfl⟩,
⟨⟨func157,by kernel_rfl⟩,
⟨⟨func158,by kernel_rfl⟩,
⟨⟨func159,by kernel_rfl⟩,
⟨⟨func160,by kernel_rfl⟩,
⟨⟨func161,by kernel_rfl⟩,
⟨⟨func162,by kernel_rfl⟩,
⟨⟨func163,by kernel_rfl⟩,
⟨⟨func164,by kernel_rfl⟩,
⟨⟨func165,by kernel_rfl⟩,
⟨⟨func166,by kernel_rfl⟩,
⟨⟨func167,by kernel_rfl⟩,
⟨⟨func168,by kernel_rfl⟩,
⟨⟨func169,by kernel_rfl⟩,
⟨⟨func171,by kernel_rfl⟩,
⟨⟨func172,by kernel_rfl⟩,
⟨⟨func173,by kernel_rfl⟩,
⟨⟨func174,by kernel_rfl⟩,
⟨⟨func175,by kernel_rfl⟩,
⟨⟨func176,by kernel_rfl⟩,
⟨⟨func177,by kernel_rfl⟩,
⟨⟨func178,by kernel_rfl⟩,
⟨⟨func179,by kernel_rfl⟩,
⟨⟨func180,by kernel_rfl⟩,
⟨⟨func181,by kernel_rfl⟩,
⟨⟨func182,by kernel_rfl⟩,
⟨⟨func183,by kernel_rfl⟩,
⟨⟨func184,by kernel_rfl⟩,
⟨⟨func185,by kernel_rfl⟩,
⟨⟨func186,by kernel_rfl⟩,
⟨⟨func187,by kernel_rfl⟩,
⟨⟨func188,by kernel_rfl⟩,
⟨⟨func189,by kernel_rfl⟩,
⟨⟨func190,by kernel_rfl⟩,
⟨⟨func191,by kernel_rfl⟩,
⟨⟨func192,by kernel_rfl⟩,
⟨⟨func193,by kernel_rfl⟩,
⟨⟨func194,by kernel_rfl⟩,
⟨⟨func195,by kernel_rfl⟩,
⟨⟨func196,by kernel_rfl⟩,
⟨⟨func197,by kernel_rfl⟩,
⟨⟨func198,by kernel_rfl⟩,
⟨⟨func199,by kernel_rfl⟩,
⟨⟨func200,by kernel_rfl⟩,
⟨⟨func201,by kernel_rfl⟩,
⟨⟨func202,by kernel_rfl⟩,
⟨⟨func203,by kernel_rfl⟩,
⟨⟨func204,by kernel_rfl⟩,
⟨⟨func205,by kernel_rfl⟩,
⟨⟨func206,by kernel_rfl⟩,
⟨⟨func207,by kernel_rfl⟩,
⟨⟨func208,by kernel_rfl⟩,
⟨⟨func209,by kernel_rfl⟩,
⟨⟨func210,by kernel_rfl⟩,
⟨⟨func211,by kernel_rfl⟩,
⟨⟨func212,by kernel_rfl⟩,
⟨⟨func213,by kernel_rfl⟩,
⟨⟨func214,by kernel_rfl⟩,
⟨⟨func215,by kernel_rfl⟩,
⟨⟨func216,by kernel_rfl⟩,
⟨⟨func217,by kernel_rfl⟩,
⟨⟨func218,by kernel_rfl⟩,
⟨⟨func219,by kernel_rfl⟩,
⟨⟨func220,by kernel_rfl⟩,
⟨⟨func221,by kernel_rfl⟩,
⟨⟨func222,by kernel_rfl⟩,
⟨⟨func223,by kernel_rfl⟩,
⟨⟨func224,by kernel_rfl⟩,
⟨⟨func225,by kernel_rfl⟩,
⟨⟨func226,by kernel_rfl⟩,
⟨⟨func227,by kernel_rfl⟩,
⟨⟨func228,by kernel_rfl⟩,
⟨⟨func229,by kernel_rfl⟩,
⟨⟨func230,by kernel_rfl⟩,
⟨⟨func231,by kernel_rfl⟩,
⟨⟨func232,by kernel_rfl⟩,
⟨⟨func233,by kernel_rfl⟩,
⟨⟨func234,by kernel_rfl⟩,
⟨⟨func235,by kernel_rfl⟩,
⟨⟨func236,by kernel_rfl⟩,
⟨⟨func237,by kernel_rfl⟩,
⟨⟨func242,by kernel_rfl⟩,
⟨⟨func243,by kernel_rfl⟩,
⟨⟨func244,by kernel_rfl⟩,
⟨⟨func246,by kernel_rfl⟩,
⟨⟨func247,by kernel_rfl⟩,
⟨⟨func248,by kernel_rfl⟩,
⟨⟨func249,by kernel_rfl⟩,
⟨⟨func250,by kernel_rfl⟩,
⟨⟨func251,by kernel_rfl⟩,
⟨⟨func252,by kernel_rfl⟩,
⟨⟨func253,by kernel_rfl⟩,
⟨⟨func254,by kernel_rfl⟩,
⟨⟨func255,by kernel_rfl⟩,
⟨⟨func258,by kernel_rfl⟩,
⟨⟨func259,by kernel_rfl⟩,
⟨⟨func260,by kernel_rfl⟩,
⟨⟨func262,by kernel_rfl⟩,
⟨⟨func264,by kernel_rfl⟩,
⟨⟨func266,by kernel_rfl⟩,
⟨⟨func267,by kernel_rfl⟩,
⟨⟨func271,by kernel_rfl⟩,
⟨⟨func272,by kernel_rfl⟩,
⟨⟨func277,by kernel_rfl⟩,
⟨⟨func282,by kernel_rfl⟩,
⟨⟨func283,by kernel_rfl⟩,
⟨⟨func284,by kernel_rfl⟩,
⟨⟨func285,by kernel_rfl⟩,
⟨⟨func286,by kernel_rfl⟩,
⟨⟨func291,by kernel_rfl⟩,
⟨⟨func293,by kernel_rfl⟩,
⟨⟨func296,by kernel_rfl⟩,
⟨⟨func297,by kernel_rfl⟩,
⟨⟨func109,by kernel_rfl⟩,
⟨⟨func109,by kernel_rfl⟩,
⟨⟨func170,by kernel_rfl⟩,
⟨⟨func170,by kernel_rfl⟩,
⟨⟨func46,by kernel_rfl⟩,trivial⟩⟩⟩⟩⟩⟩⟩⟩⟩⟩⟩⟩⟩⟩⟩⟩⟩⟩⟩⟩⟩⟩⟩⟩⟩⟩⟩⟩⟩⟩⟩⟩⟩⟩⟩⟩⟩⟩⟩⟩⟩⟩⟩⟩⟩⟩⟩⟩⟩⟩⟩⟩⟩⟩⟩⟩⟩⟩⟩⟩⟩⟩⟩⟩⟩⟩⟩⟩⟩⟩⟩⟩⟩⟩⟩⟩⟩⟩⟩⟩⟩⟩⟩⟩⟩⟩⟩⟩⟩⟩⟩⟩⟩⟩⟩⟩⟩⟩⟩⟩⟩⟩⟩⟩⟩⟩⟩⟩⟩⟩⟩⟩⟩⟩⟩⟩⟩⟩⟩⟩⟩⟩⟩⟩⟩⟩⟩⟩⟩⟩⟩⟩⟩⟩⟩⟩⟩⟩⟩⟩⟩⟩⟩⟩⟩⟩⟩⟩⟩⟩⟩⟩⟩⟩⟩⟩⟩⟩⟩⟩⟩⟩⟩⟩⟩⟩⟩⟩⟩⟩⟩⟩⟩⟩⟩⟩⟩⟩⟩⟩⟩⟩⟩⟩⟩⟩⟩⟩⟩⟩⟩⟩⟩⟩⟩⟩⟩⟩⟩⟩⟩⟩⟩⟩⟩⟩⟩⟩⟩⟩⟩⟩⟩⟩⟩⟩⟩⟩⟩⟩⟩⟩⟩⟩⟩⟩⟩⟩⟩⟩⟩⟩⟩⟩⟩⟩⟩⟩⟩⟩⟩⟩⟩⟩⟩⟩⟩⟩⟩⟩⟩⟩⟩⟩⟩⟩⟩⟩⟩⟩⟩⟩⟩⟩⟩⟩⟩⟩
theorem qcq:tyL.all (λp=>chkMap Go.Proofs.Tryz.prog tyT p.1 p.2)=true:=by kernel_rfl
theorem envOk:q14 En:=⟨λ_ _ h=>qco qcp h,λ_ _ h=>List.all_eq_true.1 qcq _ (q90 h),λ_ _ h=>qcr qcs h,Checked.mixed Go.Proofs.Tryz.checked⟩
end Rf
end
