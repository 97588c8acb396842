/- Texts of this work put together, their blanks and comments taken out: Am3, Nms, Okk. -/
import Derived.Test.YtcpnpoagpnkblaaGreatDoorVNF
set_option linter.unusedVariables false
set_option linter.unusedSimpArgs false
section
/- What the document says is due: amounts, rents. -/
set_option maxHeartbeats 4000000
namespace Rf
open Go
section
variable {n:Nat} {q r:Rat} {d e:Nat}
theorem x_of{z:Int}(h1:-9223372036854775808<=z)(h2:z<=9223372036854775807):evF EnD (n+1) 12 [iF z]=some [zb ((z:Rat)).num,wl ((z:Rat)).num,.bool false,wL ((z:Rat)).den]:=by
 have:evF EnD (n+1) 12 [iF z]=evF EnA (n+1) 12 [iF z]:=by kernel_rfl
 rw[this,w_of h1 h2]
theorem x_mul(hq:Sz q)(hr:Sz r)(hd:dn d=q.den)(he:dn e=r.den):evF EnD (n+1) 13 [zb (q).num,wl (q).num,.bool false,wL (d),zb (r).num,wl (r).num,.bool false,wL (e)]=some [zb (q*r).num,wl (q*r).num,.bool false,wL (q*r).den]:=by
 have:evF EnD (n+1) 13 [zb (q).num,wl (q).num,.bool false,wL (d),zb (r).num,wl (r).num,.bool false,wL (e)]=evF EnA (n+1) 13 [zb (q).num,wl (q).num,.bool false,wL (d),zb (r).num,wl (r).num,.bool false,wL (e)]:=by kernel_rfl
 rw[this,w_mul hq hr hd he]
theorem qcc(hq:Sz q)(hd:dn d=q.den):evF EnD (n+1) 14 [zb (q).num,wl (q).num,.bool false,wL (d)]=some [sF (qx q)]:=by
 have:evF EnD (n+1) 14 [zb (q).num,wl (q).num,.bool false,wL (d)]=evF EnA (n+1) 14 [zb (q).num,wl (q).num,.bool false,wL (d)]:=by kernel_rfl
 rw[this,w_text hq hd]
end
section
variable {g:q11} {ss:List StpV} {bs:List BlkV} {r:ResV} {n:Nat} {who:ByteArray}
end
end Rf
end
section
/- Names of those who have an order: the program's (sorted, each once) and the document's (each put in at its place) are one list. -/
set_option maxHeartbeats 2000000
namespace Rf
open Go
def insN:List Txt->Txt->List Txt
 |[],x=>[x]
 |a::l,x=>if a<x then a::insN l x else if a=x then a::l else x::a::l
def whoL(ss:List StpV)(bs:List BlkV):List Txt:=(ss.map λs=>s.who.data.toList)++bs.map λb=>b.who.data.toList
def q26(ss:List StpV)(bs:List BlkV):List Txt:=Lib.compact (sortL (whoL ss bs))
theorem qef(a:Txt):¬ a<a:=List.lt_irrefl a
theorem qi4{a b:Txt}(h:a<=b)(hn:a≠b):a<b:=Decidable.byContradiction λh2=>hn (List.le_antisymm h (List.not_lt.1 h2))
theorem tx_gt_of{a b:Txt}(h:¬ a<b)(hn:a≠b):b<a:=qi4 (List.not_lt.1 h) λe=>hn e.symm
theorem qeg(x y:Txt):∀l:List Txt,y∈insN l x↔y=x\/y∈l
 |[]=>by simp[insN]
 |a::l=>by
  unfold insN;split
  ·rw[List.mem_cons,qeg x y l,List.mem_cons];constructor
   ·rintro(h | h | h) <;> simp[h]
   ·rintro(h | h | h) <;> simp[h]
  ·split
   ·rename_i _ e;subst e;rw[List.mem_cons];constructor
    ·rintro(h | h) <;> simp[h]
    ·rintro(h | h | h) <;> simp[h]
   ·simp
theorem ins_asc(x:Txt):∀ {l:List Txt},l.Pairwise (·<·)->(insN l x).Pairwise (·<·)
 |[],_=>by simp[insN]
 |a::l,h=>by
  have h':=List.pairwise_cons.1 h;unfold insN;split
  ·rename_i hlt;refine List.pairwise_cons.2 ⟨λy hy=>?_,ins_asc x h'.2⟩;rcases(qeg x y l).1 hy with rfl | hy
   ·exact hlt
   ·exact h'.1 y hy
  ·split
   ·exact h
   ·rename_i h1 h2;have hx:=tx_gt_of h1 h2;refine List.pairwise_cons.2 ⟨λy hy=>?_,h⟩;rcases List.mem_cons.1 hy with rfl | hy
    ·exact hx
    ·exact List.lt_trans hx (h'.1 y hy)
theorem qi5:∀ {S T:List Txt},S.Pairwise (·<·)->T.Pairwise (·<·)->(∀k,k∈S↔k∈T)->S=T
 |[],[],_,_,_=>rfl
 |[],b::t,_,_,h=>absurd ((h b).2 (by simp)) (by simp)
 |a::r,[],_,_,h=>absurd ((h a).1 (by simp)) (by simp)
 |a::r,b::t,hs,ht,h=>by
  have hs':=List.pairwise_cons.1 hs;have ht':=List.pairwise_cons.1 ht;have e:a=b:=by
   rcases List.mem_cons.1 ((h a).1 (by simp))with q | q
   ·exact q
   ·rcases List.mem_cons.1 ((h b).2 (by simp))with q2 | q2
    ·exact q2.symm
    ·exact absurd (List.lt_trans (ht'.1 a q) (hs'.1 b q2)) (qef _)
  subst e;have:r=t:=qi5 hs'.2 ht'.2 λk=>by
   have hk:=h k;simp only[List.mem_cons]at hk;constructor
   ·intro q;rcases hk.1 (.inr q)with rfl | q2
    ·exact absurd (hs'.1 k q) (qef _)
    ·exact q2
   ·intro q;rcases hk.2 (.inr q)with rfl | q2
    ·exact absurd (ht'.1 k q) (qef _)
    ·exact q2
  rw[this]
theorem qi6{l:List Txt}(h:l.Pairwise (·≤·)):∀m,m<=l.length->(Lib.compactUpTo l.toArray m).Pairwise (·<·)/\(∀x,x∈Lib.compactUpTo l.toArray m↔x∈l.take m)/\∀x,x∈Lib.compactUpTo l.toArray m->∀i (hi:i<l.length),m<=i+1->x<=l[i]:=by
 intro m
 induction m with
 |zero =>
  intro _;have e:Lib.compactUpTo l.toArray 0=[]:=rfl;rw[e];exact⟨.nil,λx=>by simp,λx hx=>by simp at hx⟩
 |succ m ih =>
  intro hm;obtain⟨p1,p2,p3⟩:=ih (by omega);have hml:m<l.length:=by omega
  have em:l.toArray[m]! = l[m]:=by rw[getElem!_pos _ m (by simpa using hml),List.getElem_toArray]
  have le:∀i j (hi:i<l.length) (hj:j<l.length),i<=j->l[i]<=l[j]:=λi j hi hj hij=>by
   rcases Nat.lt_or_ge i j with q | q
   ·exact List.pairwise_iff_getElem.1 h i j hi hj q
   ·have:i=j:=by omega
    subst this;exact List.le_refl _
  rw[Lib.compactUpTo_succ,em];by_cases hk:Lib.keeps l.toArray m=true
  ·rw[if_pos hk];refine⟨List.pairwise_append.2 ⟨p1,by simp,λa ha b hb=>?_⟩,λx=>?_,λx hx i hi hmi=>?_⟩
   ·rw[List.mem_singleton]at hb;subst hb;have h0:m≠0:=λe=>by subst e;exact absurd ((p2 a).1 ha) (by simp)
    have hne:l[m]≠l[m-1]:=by
     unfold Lib.keeps at hk;rw[decide_eq_true_eq]at hk;rcases hk with q | q
     ·exact absurd q h0
     ·rw[em,getElem!_pos _ (m-1) (by simp;omega),List.getElem_toArray]at q;exact q
    have a1:=p3 a ha (m-1) (by omega) (by omega);have a2:=qi4 (le (m-1) m (by omega) hml (by omega)) λe=>hne e.symm;exact Decidable.byContradiction λq=>absurd (List.le_trans (List.not_lt.1 q) a1) (List.not_le.2 a2)
   ·rw[List.mem_append,p2,List.take_succ_eq_append_getElem hml,List.mem_append]
   ·rcases List.mem_append.1 hx with q | q
    ·exact p3 x q i hi (by omega)
    ·rw[List.mem_singleton]at q;subst q;exact le m i hml hi (by omega)
  ·rw[if_neg hk,List.append_nil];refine⟨p1,λx=>?_,λx hx i hi hmi=>p3 x hx i hi (by omega)⟩;have h0:m≠0/\l[m]=l[m-1]:=by
    unfold Lib.keeps at hk;rw[decide_eq_true_eq]at hk;have h1:m≠0:=λe=>hk (.inl e);refine⟨h1,Decidable.byContradiction λq=>hk (.inr ?_)⟩;rw[em,getElem!_pos _ (m-1) (by simp;omega),List.getElem_toArray];exact q
   rw[p2,List.take_succ_eq_append_getElem hml,List.mem_append,List.mem_singleton];constructor
   ·exact .inl
   ·rintro(q | rfl)
    ·exact q
    ·rw[h0.2];exact List.mem_take_iff_getElem.2 ⟨m-1,by omega,rfl⟩
theorem qi7(l:List Txt):(sortL l).Pairwise (·≤·):=by
 have tr:∀a b c:List UInt8,decide (a<=b)=true->decide (b<=c)=true->decide (a<=c)=true:=λa b c h1 h2=>by simp only[decide_eq_true_eq]at *;exact List.le_trans h1 h2
 have to:∀a b:List UInt8,(decide (a<=b)||decide (b<=a))=true:=λa b=>by simp only[Bool.or_eq_true,decide_eq_true_eq];exact List.le_total a b
 exact(List.pairwise_mergeSort tr to l).imp λh=>by simpa using h
theorem names_asc(ss:List StpV)(bs:List BlkV):(q26 ss bs).Pairwise (·<·):=by
 have:=(qi6 (qi7 (whoL ss bs)) _ (Nat.le_refl _)).1;exact this
theorem qi8(ss:List StpV)(bs:List BlkV)(x:Txt):x∈q26 ss bs↔x∈whoL ss bs:=by
 have:=(qi6 (qi7 (whoL ss bs)) _ (Nat.le_refl _)).2.1 x;rw[List.take_length]at this;rw[show x∈q26 ss bs↔x∈sortL (whoL ss bs) from this];exact List.mem_mergeSort
theorem qi9:∀(l O:List Txt),O.Pairwise (·<·)->(l.foldl insN O).Pairwise (·<·)/\∀x,x∈l.foldl insN O↔x∈O\/x∈l
 |[],O,h=>⟨h,λx=>by simp⟩
 |a::l,O,h=>by
  obtain⟨p1,p2⟩:=qi9 l (insN O a) (ins_asc a h);refine⟨p1,λx=>?_⟩;rw[show(a::l).foldl insN O=l.foldl insN (insN O a) from rfl,p2,qeg,List.mem_cons];constructor
  ·rintro((h | h) | h) <;> simp[h]
  ·rintro(h | h | h) <;> simp[h]
theorem qia(ss:List StpV)(bs:List BlkV):(whoL ss bs).foldl insN []=q26 ss bs:=by
 obtain⟨p1,p2⟩:=qi9 (whoL ss bs) [] .nil;exact qi5 p1 (names_asc ss bs) λk=>by rw[p2,qi8];simp
theorem ins_at(x:Txt):∀(O:List Txt) (k:Nat),k<=O.length->(∀j (hj:j<O.length),j<k->O[j]<x)->(∀hk:k<O.length,¬ O[k]<x) ->
  insN O x=if h:k<O.length then(if O[k]=x then O else O.take k++x::O.drop k)else O++[x]
 |[],k,hk,_,_=>by rw[dif_neg (by simp)];rfl
 |a::l,0,_,_,h2=>by
  have h2':¬ a<x:=h2 (by simp);unfold insN;rw[if_neg h2',dif_pos (by simp)];rfl
 |a::l,k+1,hk,h1,h2=>by
  have ha:a<x:=h1 0 (by simp) (by omega);have ih:=ins_at x l k (by simpa using hk) (λj hj hjk=>h1 (j+1) (by simpa using hj) (by omega)) (λhk2=>h2 (by simpa using hk2));unfold insN;rw[if_pos ha,ih];by_cases h:k<l.length
  ·rw[dif_pos h,dif_pos (by simpa using h)];by_cases e:l[k]=x
   ·rw[if_pos e,if_pos (by simpa using e)]
   ·rw[if_neg e,if_neg (by simpa using e)];rfl
  ·rw[dif_neg h,dif_neg (by simpa using h)];rfl
theorem qby(s:ByteArray):FV.str s=sF s.data.toList:=by
 show FV.str s=FV.str (txt s.data.toList);unfold txt;rw[Array.toArray_toList]
theorem qbz(t:Txt):(txt t).toList=t:=by rw[Lib.toList_data,q5x]
section
variable {ss:List StpV} {bs:List BlkV} {n i:Nat}
theorem q70{a b:Nat}(h:a<=b):Nat.ble a b=true:=Nat.ble_eq_true_of_le h
theorem bl_tx(a b:Txt):Op.bytesLess (txt a).toList (txt b).toList=decide (a<b):=by rw[Go.Proofs.bytesLess_eq,qbz,qbz]
theorem eq_tx(a b:Txt):((txt a).toList==(txt b).toList)=decide (a=b):=by
 rw[qbz,qbz,Bool.eq_iff_iff,beq_iff_eq,decide_eq_true_eq]
theorem put_eq{A O:List Txt}{i k:Nat}(hi:i<A.length)(hk:k<=O.length):((([]:List FV)++List.drop 0 (List.take k (O.map sF)))++[sF A[i]])++List.drop k (List.take (O.map sF).length (O.map sF))=(O.take k++A[i]::O.drop k).map sF:=by
 rw[List.nil_append,List.drop_zero,List.take_length,List.map_append,List.map_cons,List.map_take,List.map_drop,List.append_assoc];rfl
theorem wins_loop{m0:Nat}{A:List Txt}{i:Nat}(hi:i<A.length)(hA:A.length<=1000000){O:List Txt}(hO:O.length<=1000000):∀(d k m:Nat),k+d=O.length->d<m->(∀j (hj:j<O.length),j<k->O[j]<A[i]) ->
  q1d.l15 n [m0] m [.list 1 (A.map sF),.list 1 (O.map sF),iF i,iF k]=q1d.l12 n [] m0 [.list 1 (A.map sF),.list 1 ((insN O A[i]).map sF),iF ((i+1:Nat):Int)]:=by
 intro d
 induction d with
 |zero =>
  intro k m hk hm hlow;obtain⟨m,rfl⟩:=qSx m (by omega);obtain rfl:k=O.length:=by omega
  have ei:=ins_at A[i] O O.length (Nat.le_refl _) hlow (λh=>absurd h (by omega));rw[dif_neg (by omega)]at ei;have ei2:insN O A[i]=O.take O.length++A[i]::O.drop O.length:=by rw[ei,List.take_length,List.drop_length]
  rw[q1d.qa9,ei2,<- put_eq hi (Nat.le_refl _)];simp (disch:=(first | omega | (simp only[List.length_append,List.length_take,List.length_drop,List.length_cons,List.length_nil,List.length_map];omega))) only[List.length_map,decide_eq_false,qc hi,q1p (Nat.le_refl O.length),q7i hi,el0,el1,q70,Option.bind_some,qg,cond_false,cond_true,qi]
 |succ d ih =>
  intro k m hk hm hlow;obtain⟨m,rfl⟩:=qSx m (by omega);have hkl:k<O.length:=by omega
  rw[q1d.qa9];simp only[List.length_map];rw[decide_eq_true (by omega),cond_true,qc hkl,qc hi];simp only[Option.bind_some,q7i hkl,q7i hi,qg,bl_tx,eq_tx,cond_true];by_cases hlt:O[k]<A[i]
  ·rw[decide_eq_true hlt,cond_true,qi (by omega)];refine ih (k+1) m (by omega) (by omega) λj hj hjk=>?_;by_cases e:j=k
   ·subst e;exact hlt
   ·exact hlow j hj (by omega)
  ·have ei:=ins_at A[i] O k (by omega) hlow (λ_=>hlt);rw[dif_pos hkl]at ei;rw[decide_eq_false hlt,cond_false];by_cases e:O[k]=A[i]
   ·rw[if_pos e]at ei;rw[decide_eq_true e,cond_true,ei,qi (by omega)]
   ·rw[if_neg e]at ei;rw[decide_eq_false e,cond_false,ei,<- put_eq hi (by omega)];simp (disch:=(first | omega | (simp only[List.length_append,List.length_take,List.length_drop,List.length_cons,List.length_nil,List.length_map];omega))) only[q1p (Nat.le_of_lt hkl),el0,el1,q70,Option.bind_some,cond_true,qi,List.length_map]
theorem ins_len(x:Txt):∀l:List Txt,(insN l x).length<=l.length+1
 |[]=>Nat.le_refl _
 |a::l=>by
  unfold insN;have:=ins_len x l;split
  ·simp only[List.length_cons];omega
  ·split <;> simp only[List.length_cons] <;> omega
theorem qny{A:List Txt}(hA:A.length<=100000)(hn:200000<=n):∀(d i m:Nat) (O:List Txt),i+d=A.length->d<m->O.length<=i ->
  q1d.l12 n [] m [.list 1 (A.map sF),.list 1 (O.map sF),iF i]=some [.list 1 (((A.drop i).foldl insN O).map sF)]:=by
 intro d
 induction d with
 |zero =>
  intro i m O hi hm hO;obtain⟨m,rfl⟩:=qSx m (by omega);obtain rfl:i=A.length:=by omega
  rw[q1d.q9k,List.length_map,decide_eq_false (by omega),cond_false,List.drop_length];rfl
 |succ d ih =>
  intro i m O hi hm hO;obtain⟨m,rfl⟩:=qSx m (by omega);have hil:i<A.length:=by omega
  have h:=wins_loop (n:=n) (m0:=m) hil (by omega) (O:=O) (by omega) O.length 0 n (by omega) (by omega) (λj _ h=>absurd h (by omega));rw[q1d.q9k,List.length_map,decide_eq_true (by omega),cond_true];refine h.trans ?_;rw[ih (i+1) m (insN O A[i]) (by omega) (by omega) (by have:=ins_len A[i] O;omega),List.drop_eq_getElem_cons hil];rfl
theorem who_at(h:i<ss.length):at' (ss.map StpV.fv) i 0=some (sF ss[i].who.data.toList):=by rw[q4a h,<- qby];rfl
theorem whob_at(h:i<bs.length):at' (bs.map BlkV.fv) i 0=some (sF bs[i].who.data.toList):=by rw[q3o h,<- qby];rfl
theorem qc0{α β:Type}(f:α->β){l:List α}{i:Nat}(h:i<l.length):(l.take i).map f++[f l[i]]=(l.take (i+1)).map f:=by
 rw[List.take_succ_eq_append_getElem h,List.map_append];rfl
theorem wNames_run(hs:ss.length<=256)(hb:bs.length<=256)(hn:200000<=n):evF EnD (n+1) 28 [.list 7 (ss.map StpV.fv),.list 8 (bs.map BlkV.fv)]=some [.list 1 ((q26 ss bs).map sF)]:=by
 have l7:∀(d i m:Nat),i+d=bs.length->d<m->q1d.l7 n [] m [.list 8 (bs.map BlkV.fv),.list 1 (((ss.map λs=>s.who.data.toList)++(bs.take i).map λb=>b.who.data.toList).map sF),iF i]=some [.list 1 ((q26 ss bs).map sF)]:=by
  intro d
  induction d with
  |zero =>
   intro i m hi hm;obtain⟨m,rfl⟩:=qSx m (by omega);obtain rfl:i=bs.length:=by omega
   have h:=qny (n:=n) (A:=whoL ss bs) (by unfold whoL;simp only[List.length_append,List.length_map];omega) hn (whoL ss bs).length 0 n [] (by omega) (by unfold whoL;simp only[List.length_append,List.length_map];omega) (Nat.le_refl _);rw[List.drop_zero,qia]at h;rw[q1d.l7_eq,List.length_map,decide_eq_false (by omega),cond_false,List.take_length];exact h
  |succ d ih =>
   intro i m hi hm;obtain⟨m,rfl⟩:=qSx m (by omega);have hil:i<bs.length:=by omega
   rw[q1d.l7_eq,List.length_map,decide_eq_true (by omega),cond_true,qc hil];simp only[Option.bind_some,whob_at hil,qg,el1];rw[q70 (by simp only[List.length_append,List.length_map,List.length_take,List.length_cons,List.length_nil];omega),cond_true,qi (by omega),<- ih (i+1) m (by omega) (by omega),<- qc0 (λb:BlkV=>b.who.data.toList) hil];simp only[List.map_append,List.append_assoc,List.map_cons,List.map_nil]
 have l3:∀(d i m:Nat),i+d=ss.length->d<m->q1d.l3 n [] m [.list 7 (ss.map StpV.fv),.list 8 (bs.map BlkV.fv),.list 1 (((ss.take i).map λs=>s.who.data.toList).map sF),iF i]=some [.list 1 ((q26 ss bs).map sF)]:=by
  intro d
  induction d with
  |zero =>
   intro i m hi hm;obtain⟨m,rfl⟩:=qSx m (by omega);obtain rfl:i=ss.length:=by omega
   have h:=l7 bs.length 0 n (by omega) (by omega);rw[List.take_zero,List.map_nil,List.append_nil]at h;rw[q1d.qv,List.length_map,decide_eq_false (by omega),cond_false,List.take_length];exact h
  |succ d ih =>
   intro i m hi hm;obtain⟨m,rfl⟩:=qSx m (by omega);have hil:i<ss.length:=by omega
   rw[q1d.qv,List.length_map,decide_eq_true (by omega),cond_true,qc hil];simp only[Option.bind_some,who_at hil,qg,el1];rw[q70 (by simp only[List.length_map,List.length_take,List.length_cons,List.length_nil];omega),cond_true,qi (by omega),<- ih (i+1) m (by omega) (by omega),<- qc0 (λb:StpV=>b.who.data.toList) hil];simp only[List.map_append,List.map_cons,List.map_nil]
 rw[qnz];have h:=l3 ss.length 0 n (by omega) (by omega);rw[List.take_zero,List.map_nil]at h;exact h
theorem qo0{L:List FV}(hs:ss.length<=256)(hb:bs.length<=256)(hn:1000<=n){g:q11}{r:ResV} :
  q1f.l5 (n+1) [] (n+1) (gR g (rL r [.list 7 (ss.map StpV.fv),.list 8 (bs.map BlkV.fv),.list 1 [],.list 7 (ss.map StpV.fv),iF (ss.length:Int),iF 0])) =
   q1f.l19 (n+1) [] (n+1) (gR g (rL r [.list 2 [],.list 1 [],.bool false,.list 7 (ss.map StpV.fv),.list 8 (bs.map BlkV.fv),.list 1 ((q26 ss bs).map sF),iF ((q26 ss bs).length:Int),iF 0])):=by
 have lw:(whoL ss bs).length=ss.length+bs.length:=by unfold whoL;simp only[List.length_append,List.length_map]
 have so:∀l:List Txt,(l.map sF).all q4y=true:=λl=>List.all_eq_true.2 λx hx=>by
  obtain⟨t,_,rfl⟩:=List.mem_map.1 hx;rfl
 have bo:∀l:List Txt,(l.map sF).map byts=l:=λl=>by
  rw[List.map_map];exact(List.map_congr_left λt _=>(q5x t:byts (sF t)=t)).trans (List.map_id _)
 have h81:evF EnD (n+1) 81 [.list 1 ((whoL ss bs).map sF)]=some [.list 1 ((sortL (whoL ss bs)).map sF)]:=by
  have:evF EnD (n+1) 81 [.list 1 ((whoL ss bs).map sF)]=sortExt [.list 1 ((whoL ss bs).map sF)]:=by kernel_rfl
  rw[this];refine(if_pos ⟨so _,by rw[List.length_map];omega⟩).trans ?_;rw[bo]
 have h86:evF EnD (n+1) 86 [.list 1 ((sortL (whoL ss bs)).map sF)]=some [.list 1 ((q26 ss bs).map sF)]:=by
  have:evF EnD (n+1) 86 [.list 1 ((sortL (whoL ss bs)).map sF)]=qaa [.list 1 ((sortL (whoL ss bs)).map sF)]:=by kernel_rfl
  rw[this];refine(if_pos ⟨so _,by rw[List.length_map,show(sortL (whoL ss bs)).length=(whoL ss bs).length from(List.mergeSort_perm _ _).length_eq];omega⟩).trans ?_;rw[bo];rfl
 have l10:∀(d i m:Nat),i+d=bs.length->d<m->q1f.l10 (n+1) [] m (gR g (rL r [.list 7 (ss.map StpV.fv),.list 8 (bs.map BlkV.fv),.list 1 (((ss.map λs=>s.who.data.toList)++(bs.take i).map λb=>b.who.data.toList).map sF),.list 8 (bs.map BlkV.fv),iF (bs.length:Int),iF i])) =
   q1f.l19 (n+1) [] (n+1) (gR g (rL r [.list 2 [],.list 1 [],.bool false,.list 7 (ss.map StpV.fv),.list 8 (bs.map BlkV.fv),.list 1 ((q26 ss bs).map sF),iF ((q26 ss bs).length:Int),iF 0])):=by
  intro d
  induction d with
  |zero =>
   intro i m hi hm;obtain⟨m,rfl⟩:=qSx m (by omega);obtain rfl:i=bs.length:=by omega
   rw[q1f.q6u,decide_eq_false (by omega),cond_false,List.take_length,show((ss.map λs=>s.who.data.toList)++bs.map λb=>b.who.data.toList)=whoL ss bs from rfl,h81];simp (disch:=omega) only[Option.bind_some,List.getElem?_cons_zero,q9];rw[h86];simp (disch:=omega) only[Option.bind_some,List.getElem?_cons_zero,q9];rw[List.length_map]
  |succ d ih =>
   intro i m hi hm;obtain⟨m,rfl⟩:=qSx m (by omega);have hil:i<bs.length:=by omega
   rw[q1f.q6u,decide_eq_true (by omega),cond_true,List.length_map,qc hil];simp (disch:=omega) only[q3o hil,el1,Option.bind_some,List.getElem?_cons_zero,List.getElem?_cons_succ,q9,qb,qa,qg];rw[q70 (by simp only[List.length_append,List.length_map,List.length_take,List.length_cons,List.length_nil];omega),cond_true,qi (by omega),<- ih (i+1) m (by omega) (by omega),<- qc0 (λb:BlkV=>b.who.data.toList) hil,qby bs[i].who];simp only[List.map_append,List.append_assoc,List.map_cons,List.map_nil]
 have l5:∀(d i m:Nat),i+d=ss.length->d<m->q1f.l5 (n+1) [] m (gR g (rL r [.list 7 (ss.map StpV.fv),.list 8 (bs.map BlkV.fv),.list 1 (((ss.take i).map λs=>s.who.data.toList).map sF),.list 7 (ss.map StpV.fv),iF (ss.length:Int),iF i])) =
   q1f.l19 (n+1) [] (n+1) (gR g (rL r [.list 2 [],.list 1 [],.bool false,.list 7 (ss.map StpV.fv),.list 8 (bs.map BlkV.fv),.list 1 ((q26 ss bs).map sF),iF ((q26 ss bs).length:Int),iF 0])):=by
  intro d
  induction d with
  |zero =>
   intro i m hi hm;obtain⟨m,rfl⟩:=qSx m (by omega);obtain rfl:i=ss.length:=by omega
   have h:=l10 bs.length 0 (n+1) (by omega) (by omega);rw[List.take_zero,List.map_nil,List.append_nil]at h;rw[q1f.q1x,decide_eq_false (by omega),cond_false,List.take_length,List.length_map];exact h
  |succ d ih =>
   intro i m hi hm;obtain⟨m,rfl⟩:=qSx m (by omega);have hil:i<ss.length:=by omega
   rw[q1f.q1x,decide_eq_true (by omega),cond_true,List.length_map,qc hil];simp (disch:=omega) only[q4a hil,el1,Option.bind_some,List.getElem?_cons_zero,List.getElem?_cons_succ,qb,qa,qg];rw[q70 (by simp only[List.length_map,List.length_take,List.length_cons,List.length_nil];omega),cond_true,qi (by omega),<- ih (i+1) m (by omega) (by omega),<- qc0 (λb:StpV=>b.who.data.toList) hil,qby ss[i].who];simp only[List.map_append,List.map_cons,List.map_nil]
 have h:=l5 ss.length 0 (n+1) (by omega) (by omega);rw[List.take_zero,List.map_nil]at h;exact h
end
end Rf
end
section
/- Of a result that may be, all that is due can be said. -/
namespace Rf
open Go
section
variable {g:q11} {ss:List StpV} {bs:List BlkV} {r:ResV}
theorem chk_zero(h:chkV g ss bs r=0):q3y g ss bs r/\q20 r=true:=by
 unfold chkV at h;split at h
 ·cases h
 ·rename_i h1;split at h
  ·cases h
  ·rename_i h2;exact⟨qcv.1 (by simpa using h1),by simpa using h2⟩
theorem q75{α:Type}{l:List α}{k:Nat}{z:α}(h:k<l.length):l.getD k z=l[k]:=by rw[List.getD_eq_getElem?_getD,List.getElem?_eq_getElem h];rfl
theorem ok_pr(hs:q3y g ss bs r)(hr:q20 r=true){h z:Int}(h0:0<=h)(h1:h<g.qk)(z0:0<=z)(z1:z<g.qm):pOk r h z=true:=by
 obtain⟨k,rfl⟩:∃k:Nat,h=k:=⟨h.toNat,by omega⟩;obtain⟨j,rfl⟩:∃j:Nat,z=j:=⟨z.toNat,by omega⟩;have hp:=hs.p;have hk:k<r.p.length:=by omega
 have hl:=(hs.lens k (by omega)).2;rw[q75 hk]at hl;have hj:j<r.p[k].length:=by omega
 unfold q20 at hr;simp only[Bool.and_eq_true]at hr;have hn:=List.all_eq_true.1 (List.all_eq_true.1 hr.2 _ (List.getElem_mem hk)) _ (List.getElem_mem hj);unfold pOk hasP;rw[show((k:Int)).toNat=k from rfl,show((j:Int)).toNat=j from rfl,q75 hk,q75 hj,hn,Bool.and_true];simp only[Bool.and_eq_true,decide_eq_true_eq];omega
theorem qff(h:q2h g ss bs=true):q3x g=true/\(∀s,s∈ss->q4f g s=true)/\∀b,b∈bs->q67 g b=true:=by
 unfold q2h at h;simp only[Bool.and_eq_true]at h;exact⟨h.1.1.1.1.1.1.1,λs hs=>List.all_eq_true.1 h.1.1.1.1.2 s hs,λb hb=>List.all_eq_true.1 h.1.1.1.2 b hb⟩
theorem qco{n a b:Int}:q15 n a b=true↔a<=n/\n<=b:=by
 unfold q15;rw[Bool.and_eq_true,decide_eq_true_eq,decide_eq_true_eq]
theorem okA_of(hs:q3y g ss bs r)(hr:q20 r=true)(who:ByteArray):okA ss bs r who=true:=by
 obtain⟨o1,o2,o3⟩:=qff hs.ord;unfold okA;rw[Bool.and_eq_true,List.all_eq_true,List.all_eq_true];constructor
 ·intro i hi;have hi':i<ss.length:=by rw[List.mem_range'_1]at hi;omega
  have hx:i<r.x.length:=by rw[hs.x];exact hi'
  have hst:=o2 _ (List.getElem_mem hi');unfold q4f at hst;simp only[Bool.and_eq_true,qco]at hst;have hrr:=hr;unfold q20 at hrr;simp only[Bool.and_eq_true]at hrr;have hn:=List.all_eq_true.1 hrr.1.1.1.1 _ (List.getElem_mem hx);unfold okS;rw[List.getElem?_eq_getElem hi'];show(!(decide (ss[i].who=who))||(decide (i<r.x.length)&&isNum (r.x.getD i [])&&pOk r ss[i].hour ss[i].zone))=true;rw[decide_eq_true hx,q75 hx,hn,ok_pr hs hr (by omega) (by omega) (by omega) (by omega)];simp
 ·intro i hi;have hi':i<bs.length:=by rw[List.mem_range'_1]at hi;omega
  have hx:i<r.accept.length:=by rw[hs.ac];exact hi'
  have hst:=o3 _ (List.getElem_mem hi');unfold q67 at hst;simp only[Bool.and_eq_true,qco,decide_eq_true_eq]at hst;have hall:((List.range' 0 bs[i].qty.length).all λh=>pOk r h bs[i].zone)=true:=List.all_eq_true.2 λh hh=>by
   have hh':h<bs[i].qty.length:=by rw[List.mem_range'_1]at hh;omega
   exact ok_pr hs hr (by omega) (by omega) (by omega) (by omega)
  unfold okB;rw[List.getElem?_eq_getElem hi'];show(!(decide (bs[i].who=who))||(decide (i<r.accept.length)&&(!(r.accept.getD i false)||(List.range' 0 bs[i].qty.length).all λh=>pOk r h bs[i].zone)))=true;rw[decide_eq_true hx,hall];simp
theorem okRent_of(hs:q3y g ss bs r)(hr:q20 r=true){k:Nat}(hk:k<g.lines.length):qa4 r g.lines[k] k=true:=by
 obtain⟨o1,o2,o3⟩:=qff hs.ord;have hln:q3q g g.lines[k]=true:=by
  unfold q3x at o1;simp only[Bool.and_eq_true]at o1;exact List.all_eq_true.1 o1.1.1.2 _ (List.getElem_mem hk)
 unfold q3q at hln;simp only[Bool.and_eq_true,qco]at hln;have hf:=hs.f;unfold qa4;rw[List.all_eq_true];intro h hh;have hh':h<r.f.length:=by rw[List.mem_range'_1]at hh;omega
 have hl:=(hs.lens h (by omega)).1;rw[q75 hh']at hl;have hk':k<r.f[h].length:=by omega
 have hrr:=hr;unfold q20 at hrr;simp only[Bool.and_eq_true]at hrr;have hn:=List.all_eq_true.1 (List.all_eq_true.1 hrr.1.2 _ (List.getElem_mem hh')) _ (List.getElem_mem hk');unfold okR;rw[q75 hh',decide_eq_true hk',q75 hk',hn,ok_pr hs hr (by omega) (by omega) (by omega) (by omega),ok_pr hs hr (by omega) (by omega) (by omega) (by omega)];rfl
end
end Rf
end
