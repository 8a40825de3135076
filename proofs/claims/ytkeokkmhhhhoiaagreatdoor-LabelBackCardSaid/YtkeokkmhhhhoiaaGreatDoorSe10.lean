import Derived.Test.YtkeokkmhhhhoiaaGreatDoorSe9
namespace Go.SE
open Go
set_option linter.unusedVariables false
variable {L:Laid}
set_option linter.unusedSimpArgs false
section
variable {V:Nat->Prop} {w w':World} {cx:Cx} {s s1:Store}
theorem WO (S:Bj L V w cx s) {id:Nat} {e:Qr} {o:E8} (he:cx[id]? =some e) (ho:s[id]? =some (some o)) (hn:e.Fg=false) (hr:o.ro=true): ¬Av V cx s e.b:=by
 rintro(h|⟨i,e',o',he',ho',hr',hn',hb⟩)
 ·exact S.apart id e o he ho hn h
 ·by_cases hi:i=id
  ·subst hi
   rw[ho]at ho'
   cases ho'
   rw[hr]at hr'
   cases hr'
  ·exact S.inj i id e' e o' o he' he ho' ho hn' hn hi (.inl hr') hb
theorem RV {z:AV} (h1: ∀cs,z≠.agg cs) (h2: ∀k l,z≠.H8 k l):z.cells= [z]:=by
 cases z<;>first|rfl|exact absurd rfl (h1 _)|exact absurd rfl (h2 _ _)
theorem Aem (S:Bj L V w cx s) {A':Nat->Prop} (hA: ∀b,A' b->Av V cx s b) {d:Nat} {x x':AV} {b o:Nat} (h:snap d s x=some x') (L:rX w cx (Av V cx s) x b o)
  (hro: ∀id∈Ch d s x,∀e o,cx[id]? =some e->s[id]? =some (some o)->e.Fg=false-> ¬A' e.b):
  ∀(c:Nat) (y':AV),x'.cells[c]? =some y'-> ∃u,w.cell? ⟨b,o+c,none⟩=some u/\u.oneCell'=true/\Rel w [] A' y' u/\y'.Lm=true:=by
 cases d with
 |zero=>cases h
 |succ d=>
  intro c y' hy'
  by_cases hagg: ∃cs,x=.agg cs
  ·obtain⟨cs,rfl⟩:=hagg
   simp only[snap]at h
   obtain⟨cs',hcs,rfl⟩:=Option.map_eq_some_iff.1 h
   obtain⟨_,h2⟩:=JI hcs
   obtain⟨y,hy,hsy⟩:=h2 c y' hy'
   obtain⟨u,g1,g2,g3⟩:=L c y hy
   obtain⟨r1,r2⟩:=g3.Uf S hA d y y' u hsy fun id hid=>hro id (by simp only[Ch];exact List.mem_flatMap.2 ⟨y,List.mem_of_getElem? hy,hid⟩)
   exact⟨u,g1,g2,r1,r2⟩
  ·have hna:=WU h fun cs hc=>hagg ⟨cs,hc⟩
   by_cases hai: ∃k l,x'=.H8 k l
   ·obtain⟨k,l,rfl⟩:=hai
    have:=rR h
    subst this
    obtain⟨u,g1,g2,g3⟩:=L c y' hy'
    have hi:y'.Lm=true:=AV.J3 (v:=.H8 k l) rfl hy'
    exact⟨u,g1,g2,g3.KY (Nat.le_refl _) (fun _ _ _=>rfl) (fun b _ hb hb'=>hb (hA b hb')) hi,hi⟩
   ·rw[RV hna fun k l hc=>hai ⟨k,l,hc⟩]at hy'
    cases c with
    |succ c=>simp at hy'
    |zero=>
     simp at hy'
     subst hy'
     have hx:x.cells= [x]:=RV (fun cs hc=>hagg ⟨cs,hc⟩) fun k l hc=>by
         subst hc
         simp only[snap]at h
         cases h
         exact hai ⟨k,l,rfl⟩
     obtain⟨u,g1,g2,g3⟩:=L 0 x (by rw[hx];rfl)
     obtain⟨r1,r2⟩:=g3.Uf S hA (d+1) x x' u h hro
     exact⟨u,g1,g2,r1,r2⟩
def Src (w:World) (cx:Cx) (A:Nat->Prop) (v:Value) (n size:Nat) (r:Row):Prop:=
 ∃(a:Option Addr) (c:Nat) (news:List Value),v=.slice a n c/\(a=none->n=0)/\news.length=n*size/\(∀ad,a=some ad-> ∀(j:Nat) (u:Value),news[j]? =some u->w.cell? (ad.add j)=some u)/\(∀u∈news,u.oneCell'=true)/\
  ∀(j c:Nat) (x':AV),j<n->(r.get j).cells[c]? =some x'-> ∃u,news[j*size+c]? =some u/\u.oneCell'=true/\Rel w cx A x' u
theorem source (S:Bj L V w cx s) {x:AV} {n size:Nat} {r:Row} {v:Value} (h:AeG s x n r) (R:Rel w cx (Av V cx s) x v) (hsz: ∀j,j<n->(r.get j).A9=size) (hpos:0<size):
  Src w cx (Av V cx s) v n size r:=by
 have key: ∀(b off:Nat) (a:Option Addr) (cp:Nat),v=.slice a n cp->(a=none->n=0)->(∀ad,a=some ad->ad=⟨b,off,none⟩)->
   (∀(j c:Nat) (x':AV),j<n->(r.get j).cells[c]? =some x'-> ∃u,w.cell? ⟨b,off+(j*size+c),none⟩=some u/\u.oneCell'=true/\Rel w cx (Av V cx s) x' u)->Src w cx (Av V cx s) v n size r:=fun b off a cp hv ha hb hc=>by
  have cell: ∀k,k<n*size-> ∃u,w.cell? ⟨b,off+k,none⟩=some u/\u.oneCell'=true:=fun k hk=>by
   have hj:k/size<n:=(Nat.div_lt_iff_lt_mul hpos).2 hk
   have hm:k%size<size:=Nat.mod_lt _ hpos
   obtain⟨u,h1,h2,_⟩:=hc (k/size) (k%size) _ hj ((r.get (k/size)).LU _ (by rw[hsz _ hj];exact hm))
   rw[show k/size*size+k%size=k by rw[Nat.mul_comm];exact Nat.div_add_mod k size]at h1
   exact⟨u,h1,h2⟩
  have get: ∀k,k<n*size->((List.range (n*size)).map fun k=>(w.cell? ⟨b,off+k,none⟩).getD undef)[k]? =w.cell? ⟨b,off+k,none⟩:=fun k hk=>by
   obtain⟨u,h1,_⟩:=cell k hk
   rw[List.getElem?_map,List.getElem?_range hk,Option.map_some,h1]
   rfl
  refine⟨a,cp,(List.range (n*size)).map fun k=>(w.cell? ⟨b,off+k,none⟩).getD undef,hv,ha,by simp,fun ad had j u hu=>?_,fun u hu=>?_,fun j c x' hj hx=>?_⟩
  ·have hlt:j<n*size:=by
       have:=(List.getElem?_eq_some_iff.1 hu).1
       simpa using this
   rw[get j hlt]at hu
   rw[hb ad had,Addr.add_lit]
   exact hu
  ·obtain⟨k,hk,rfl⟩:=List.mem_map.1 hu
   obtain⟨u,h1,h2⟩:=cell k (List.mem_range.1 hk)
   rw[h1];exact h2
  ·obtain⟨u,h1,h2,h3⟩:=hc j c x' hj hx
   have hcs:c<size:=by rw[<- hsz j hj];exact AV.NS hx
   have hlt:j*size+c<n*size:=by
       have:=Nat.mul_le_mul_right size (show j+1<=n from hj)
       rw[Nat.add_mul,Nat.one_mul]at this
       omega
   exact⟨u,by rw[get _ hlt];exact h1,h2,h3⟩
 obtain⟨hrl,h⟩:=h
 split at h
 ·rename_i nl m get
  obtain⟨rfl,hg⟩:=h
  cases R with
  |sl _ _ _ a cap BU vals hnil hcap hmax hz hmem Gr hrel=>
   by_cases h0:0<m
   ·obtain⟨b,off,rfl,hA,hb,hm⟩:=hmem h0
    have hes:BU=size:=by rw[<- (Gr 0 h0).2,<- hg 0 h0];exact hsz 0 h0
    exact key b off _ cap rfl (fun h=>by cases h) (fun ad had=>by cases had;rfl) fun j c x' hj hx=>by
         rw[hg j hj]at hx
         rw[<- hes]
         exact⟨vals j c,(hm j c x' hj hx).1,(hm j c x' hj hx).2,hrel j c x' hj hx⟩
   ·cases a with
    |none=>exact key 0 0 none cap rfl (fun _=>by omega) (fun ad had=>by cases had) fun j c x' hj=>absurd hj (by omega)
    |some ad=>
     have hm0:m=0:=by omega
     subst hm0
     exact⟨some ad,cap,[],rfl,(fun h=>by cases h),by simp,(fun ad' _ j u hu=>by simp at hu),(fun u hu=>by cases hu),fun j c x' hj=>absurd hj (by omega)⟩
 ·rename_i id m
  obtain⟨rfl,o,ho,hle,hg⟩:=h
  cases R with
  |ms _ _ cap e he hnn hn hcap htot hmax=>
   obtain⟨cur,RO⟩:=S.obj id e o he ho hnn
   have hlies: ∀j,j<m->rX w cx (Av V cx s) (o.row.get j) e.b (j*e.BU):=fun j hj=>RO.lies (by omega)
   by_cases h0:0<m
   ·have hes:e.BU=size:=by
         rcases hg 0 h0 with h|⟨h,_⟩
         ·rw[<- hsz 0 h0,h,RO.size 0 (by omega),RO.BU]
         ·
          have:(r.get 0).A9=(o.row.get 0).A9:=by
            by_cases hagg: ∃cs,o.row.get 0=.agg cs
            ·obtain⟨cs,hcs⟩:=hagg
             rw[hcs]at h ⊢
             simp only[snap]at h
             obtain⟨cs',h1,h2⟩:=Option.map_eq_some_iff.1 h
             rw[<- h2]
             exact(JI h1).1
            ·have hna:=WU h fun cs hc=>hagg ⟨cs,hc⟩
             by_cases hai: ∃k l,r.get 0=.H8 k l
             ·obtain⟨k,l,hk⟩:=hai
              rw[hk]at h
              rw[hk,rR h]
             ·have e1:(r.get 0).A9=1:=by rw[<- AV.Db,RV hna fun k l hc=>hai ⟨k,l,hc⟩];rfl
              have e2:(o.row.get 0).A9=1:=by
                  rw[<- AV.Db,RV (fun cs hc=>hagg ⟨cs,hc⟩) fun k l hc=>?_]
                  ·rfl
                  ·rw[hc]at h
                   simp only[snap]at h
                   exact hai ⟨k,l,(Option.some.inj h).symm⟩
              rw[e1,e2]
          rw[<- hsz 0 h0,this,RO.size 0 (by omega),RO.BU]
    exact key e.b 0 _ cap rfl (fun h=>by cases h) (fun ad had=>by cases had;rfl) fun j c x' hj hx=>by
         rw[Nat.zero_add,<- hes]
         rcases hg j hj with h|⟨h,hall⟩
         ·rw[h]at hx
          exact hlies j hj c x' hx
         ·obtain⟨u,g1,g2,g3,g4⟩:=Aem S (A':=Av V cx s) (fun _ h=>h) h (hlies j hj) (fun id' hid e' o' he' ho' hn'=>WO S he' ho' hn' (hall id' hid o' ho')) c x' hx
          exact⟨u,g1,g2,g3.KY (Nat.le_refl _) (fun _ _ _=>rfl) (fun _ _ h=>h) g4⟩
   ·have hm0:m=0:=by omega
    subst hm0
    exact⟨some ⟨e.b,0,none⟩,cap,[],rfl,(fun h=>by cases h),by simp,(fun ad' _ j u hu=>by simp at hu),(fun u hu=>by cases hu),fun j c x' hj=>absurd hj (by omega)⟩
  |ms0 _ e he hnn=>exact key 0 0 none 0 rfl (fun _=>rfl) (fun ad had=>by cases had) fun j c x' hj=>absurd hj (by omega)
 ·rename_i id off m
  obtain⟨rfl,o,ho,hle,hg⟩:=h
  cases R with
  |LP _ _ _ cap o' e he hnn hn hcap hoff hmax=>
   obtain⟨cur,RO⟩:=S.obj id e o he ho hnn
   by_cases h0:0<m
   ·have hes:e.BU=size:=by rw[<- hsz 0 h0,hg 0 h0,RO.size _ (by omega),RO.BU]
    have ho':=hoff (by omega)
    subst ho'
    exact key e.b (off*e.BU) _ cap rfl (fun h=>by cases h) (fun ad had=>by cases had;rfl) fun j c x' hj hx=>by
         rw[hg j hj]at hx
         have hl:rX w cx (Av V cx s) (o.row.get (off+j)) e.b ((off+j)*e.BU):=RO.lies (by omega)
         rw[<- hes,<- Nat.add_assoc,<- Nat.add_mul]
         exact hl c x' hx
   ·have hm0:m=0:=by omega
    subst hm0
    exact⟨some ⟨e.b,o',none⟩,cap,[],rfl,(fun h=>by cases h),by simp,(fun ad' _ j u hu=>by simp at hu),(fun u hu=>by cases hu),fun j c x' hj=>absurd hj (by omega)⟩
  |XK _ e he hnn=>exact key 0 0 none 0 rfl (fun _=>rfl) (fun ad had=>by cases had) fun j c x' hj=>absurd hj (by omega)
 ·exact h.elim
theorem Bj.r9 (S:Bj L V w cx s) (ob:E8) (hlen:ob.row.len=0) (hok:ob.row.ok) (hmb:ob.mb=true):
  Bj L V w (cx++ [⟨0,ob.BU,0,0,true⟩]) (s++ [some ob])/\ ∀m,m<=s.length->Ext m V w w cx (cx++ [⟨0,ob.BU,0,0,true⟩]) s (s++ [some ob]):=by
 have hl:=S.len
 have hwr: ∀b,Wr (cx++ [⟨0,ob.BU,0,0,true⟩]) (s++ [some ob]) b->Wr cx s b:=fun b hw=>by
  obtain⟨i,e,o,he,ho,hr,hn,hb⟩:=hw
  rcases CZ he with he|⟨hi,rfl⟩
  ·rcases CZ ho with ho|⟨hi,_⟩
   ·exact⟨i,e,o,he,ho,hr,hn,hb⟩
   ·have:=(List.getElem?_eq_some_iff.1 he).1;omega
  ·cases hn
 have Sc: ∀ {x:AV} {v:Value},Rel w cx (Av V cx s) x v->Rel w (cx++ [⟨0,ob.BU,0,0,true⟩]) (Av V (cx++ [⟨0,ob.BU,0,0,true⟩]) (s++ [some ob])) x v:=fun r=>
  r.move (Nat.le_refl _) (fun _ _ _=>rfl) (fun b _ hA hA'=>hA (hA'.imp (fun h=>h) (hwr b))) fun i e he=>by rw[List.getElem?_append_left (List.getElem?_eq_some_iff.1 he).1];exact he
 have old: ∀(i:Nat) (e:Qr) (o:E8),(cx++ [⟨0,ob.BU,0,0,true⟩])[i]? =some e->(s++ [some ob])[i]? =some (some o)->(cx[i]? =some e/\s[i]? =some (some o))∨(e=⟨0,ob.BU,0,0,true⟩/\o=ob):=fun i e o he ho=>by
  rcases CZ he with he|⟨hi,rfl⟩
  ·rcases CZ ho with ho|⟨hi,_⟩
   ·exact .inl ⟨he,ho⟩
   ·have:=(List.getElem?_eq_some_iff.1 he).1;omega
  ·rcases CZ ho with ho|⟨_,ho⟩
   ·have:=(List.getElem?_eq_some_iff.1 ho).1;omega
   ·cases ho;exact .inr ⟨rfl,rfl⟩
 refine⟨⟨S.low,by simp[hl],fun i e o he ho hn=>?_,fun i e o he ho hn=>?_,fun i e o he ho hm=>?_,fun i e o he ho hn=>?_,fun i j ei ej oi oj hei uO hoi hoj hni dO hne nQ=>?_,S.glob.move (Nat.le_refl _) (fun _ _ _=>rfl) fun b _ hA hA'=>hA (hA'.imp (fun h=>h) (hwr b))⟩,
  fun m hm=>⟨rfl,rfl,rfl,Nat.le_refl _,fun _ _ _=>rfl,fun b _ hA hA'=>hA (hA'.imp (fun h=>h) (hwr b)),fun b _ hA hA'=>hA (hwr b hA'),fun i e hi he=>by rw[List.getElem?_append_left (by omega)];exact he⟩⟩
 ·rcases old i e o he ho with ⟨he,ho⟩|⟨rfl,rfl⟩
  ·obtain⟨cur,R⟩:=S.obj i e o he ho hn
   refine⟨cur,R.hp,R.tot,R.BU,R.len,R.ok,R.fits,R.size,fun j c x hj hx=>?_⟩
   obtain⟨v,h1,h2,h3⟩:=R.cells j c x hj hx
   exact⟨v,h1,h2,Sc h3⟩
  ·cases hn
 ·rcases old i e o he ho with ⟨he,ho⟩|⟨rfl,rfl⟩
  ·exact S.gM i e o he ho hn
  ·exact⟨hlen,hok,hmb,rfl⟩
 ·rcases old i e o he ho with ⟨he,ho⟩|⟨rfl,rfl⟩
  ·exact S.may i e o he ho hm
  ·rw[hmb]at hm;cases hm
 ·rcases old i e o he ho with ⟨he,ho⟩|⟨rfl,rfl⟩
  ·exact S.apart i e o he ho hn
  ·cases hn
 ·rcases old i ei oi hei hoi with ⟨hei,hoi⟩|⟨rfl,rfl⟩
  ·rcases old j ej oj uO hoj with ⟨uO,hoj⟩|⟨rfl,rfl⟩
   ·exact S.inj i j ei ej oi oj hei uO hoi hoj hni dO hne nQ
   ·cases dO
  ·cases hni
theorem lZ {r r2:Row} {n:Nat} {K:Row->Prop} (h:vP r n r2 K) (hn:n<=r.len): ∃row,K row/\row.len=n+r2.len/\(r.ok->r2.ok->row.ok)/\(∀j,j<n->row.get j=r.get j)/\ ∀j,row.get (n+j)=r2.get j:=by
 have hget: ∀ {α:Type} (l l2:List α) (d:α),n<=l.length->(∀j,j<n->(l.take n++l2).getD j d=l.getD j d)/\ ∀j,(l.take n++l2).getD (n+j) d=l2.getD j d:=fun l l2 d hl=>by
  have ht:(l.take n).length=n:=by rw[List.length_take];omega
  refine⟨fun j hj=>?_,fun j=>?_⟩
  ·simp only[List.getD]
   rw[List.getElem?_append_left (by omega),List.getElem?_take,if_pos hj]
  ·simp only[List.getD]
   rw[List.getElem?_append_right (by omega),ht,show n+j-n=j by omega]
 unfold vP at h
 split at h
 ·replace h:=Bn h
  obtain⟨hkk,h⟩:=h
  obtain rfl:=of_decide_eq_true hkk
  exact⟨_,h,by simp[Row.len]at hn ⊢;omega,fun _ _=>trivial,fun j hj=>by simp only[Row.get];rw[(hget _ _ 0 hn).1 j hj],fun j=>by simp only[Row.get];rw[(hget _ _ 0 hn).2 j]⟩
 ·exact⟨_,h,by simp[Row.len]at hn ⊢;omega,fun _ _=>trivial,fun j hj=>by simp only[Row.get];rw[(hget _ _ _ hn).1 j hj],fun j=>by simp only[Row.get];rw[(hget _ _ _ hn).2 j]⟩
 ·exact⟨_,h,by simp[Row.len]at hn ⊢;omega,fun _ _=>trivial,fun j hj=>by simp only[Row.get];rw[(hget _ _ _ hn).1 j hj],fun j=>by simp only[Row.get];rw[(hget _ _ _ hn).2 j]⟩
 ·exact⟨_,h,by simp[Row.len]at hn ⊢;omega,fun h1 h2 x hx=>(List.mem_append.1 hx).elim (fun h=>h1 x (List.mem_of_mem_take h)) (h2 x),fun j hj=>by simp only[Row.get];rw[(hget _ _ _ hn).1 j hj],fun j=>by simp only[Row.get];rw[(hget _ _ _ hn).2 j]⟩
 ·exact⟨_,h,by simp[Row.len]at hn ⊢;omega,fun _ _=>trivial,fun j hj=>by simp only[Row.get];rw[(hget _ _ _ hn).1 j hj],fun j=>by simp only[Row.get];rw[(hget _ _ _ hn).2 j]⟩
 ·rename_i n1 g1 n2 g2
  have hb: ∀j,Nat.blt j n=decide (j<n):=fun j=>by rw[Bool.eq_iff_iff];simp[Nat.blt_eq]
  refine⟨_,h,rfl,fun h1 h2 j hj=>?_,fun j hj=>?_,fun j=>?_⟩
  ·show AV.Lm (bif Nat.blt j n then g1 j else g2 (j-n))=true
   rw[hb]
   simp only[Row.len]at hn
   by_cases e:j<n
   ·simp only[e,decide_true,cond_true];exact h1 j (by omega)
   ·simp only[e,decide_false,cond_false];exact h2 (j-n) (by omega)
  ·show(bif Nat.blt j n then g1 j else g2 (j-n))=g1 j
   rw[hb];simp[hj]
  ·show(bif Nat.blt (n+j) n then g1 (n+j)else g2 (n+j-n))=g2 j
   rw[hb,decide_eq_false (by omega),Nat.add_sub_cancel_left];rfl
 ·exact h.elim
end
end Go.SE
