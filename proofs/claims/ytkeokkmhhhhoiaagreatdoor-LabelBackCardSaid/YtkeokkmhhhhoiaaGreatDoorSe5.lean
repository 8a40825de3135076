import Derived.Test.YtkeokkmhhhhoiaaGreatDoorSe4
namespace Go.SE
open Go
set_option linter.unusedVariables false
variable {L:Laid}
set_option linter.unusedSimpArgs false
section
variable {P:PL} {o:Oper} {s:Store} {ev:Operand->AV}
theorem J8 {lo:Option Operand} {d:Int} {K:Int->Prop} (h:OO (lo.map ev) d K): ∃l,K l/\((lo=none/\l=d)∨ ∃a k,lo=some a/\ev a=.int k l):=by
 cases lo with
 |none=>exact⟨d,h, .inl ⟨rfl,rfl⟩⟩
 |some a=>
  simp only[Option.map_some,OO]at h
  split at h
  ·cases ‹some _=none›
  ·rename_i k i hi
   exact⟨i,h, .inr ⟨a,k,rfl,Option.some.inj hi⟩⟩
  ·exact h.elim
theorem run_sliceBound {k:IntKind} {i:Int} {y:Nat} {c:BoundsCode} (w:World) (h0:0<=i) (h1:i<=y):(Instr.sliceBound (.int k i) y c).run P w=.ok i.toNat w:=by
 simp[Instr.sliceBound,asIntOf,h0,h1]
theorem Hu {b:Bool} {len cap:Nat} {lo hi:Option Value} {l h:Int} (w:World) (hl:(lo=none/\l=0)∨ ∃k,lo=some (.int k l)) (hh:(hi=none/\h=len)∨ ∃k,hi=some (.int k h))
  (h0:0<=l) (h1:l<=h) (h2:h<=cap):(Instr.sliceBounds b len cap lo hi none).run P w=.ok (l.toNat,h.toNat,cap) w:=by
 have e:(h.toNat:Int)=h:=by omega
 rcases hl with ⟨rfl,rfl⟩|⟨k,rfl⟩<;>rcases hh with ⟨rfl,rfl⟩|⟨k',rfl⟩
 ·simp[Instr.sliceBounds]
 ·simp[Instr.sliceBounds,run_sliceBound (P:=P) w (by omega) h2]
 ·simp[Instr.sliceBounds,run_sliceBound (P:=P) w h0 h1]
 ·have:=run_sliceBound (P:=P) (k:=k) (i:=l) (y:=h.toNat) (c:=.sliceB) w h0 (by omega)
  simp[Instr.sliceBounds,run_sliceBound (P:=P) w (show 0<=h by omega) h2,this]
theorem He {lo:Option Operand} {d l:Int} {w:World} {cx:Cx} {A:Nat->Prop} {ρ:Operand->Value} (h:(lo=none/\l=d)∨ ∃a k,lo=some a/\ev a=.int k l) (R: ∀a,lo=some a->Rel w cx A (ev a) (ρ a)):
  (lo.map ρ=none/\l=d)∨ ∃k,lo.map ρ=some (.int k l):=by
 rcases h with ⟨rfl,rfl⟩|⟨a,k,rfl,hk⟩
 ·exact .inl ⟨rfl,rfl⟩
 ·have:=R a rfl
  rw[hk]at this
  exact .inr ⟨k,by rw[Option.map_some,this.Dx]⟩
theorem bV {L U n j:Nat} (a2:U<=n) (h:j<U-L):L+j<n:=by omega
theorem Ad0 {L U n cap:Nat} (a2:U<=n) (hc:n<=cap) (h:0<U-L):0<n/\L<n/\ ¬cap=L:=by omega
theorem zK {P:PL} {t e:TypeId} {w:World} {cx:Cx} {A:Nat->Prop} {lo hi:Option Value} {id off o n cap l u off':Nat} {en:Qr} (ht:P.underlying t=some (.slice e)) (hp:0<P.cellsOf e) (hes:en.BU=P.cellsOf e) (hen:cx[id]? =some en) (hnn:en.Fg=false)
  (hb:(Instr.sliceBounds true n cap lo hi none).run P w=.ok (l,u,cap) w) (hlu:l<=u) (hu:u<=cap) (hlen:off+u<=en.len) (hmax:cap<=maxLen) (hoff:0<cap->o=off*en.BU) (he:off'=off+l):
  ∃v,(Instr.sliceAt t (.slice (some ⟨en.b,o,none⟩) n cap) lo hi none).run P w=.ok v w/\Rel w cx A (.LP id off' (u-l)) v:=by
 subst he
 by_cases hc:cap=l
 ·subst hc
  exact⟨.slice (some ⟨en.b,o,none⟩) (u-cap) (cap-cap),by simp[Instr.sliceAt,Instr.slice,run_underlying ht,hb,Cq hp], .LP id (off+cap) (u-cap) (cap-cap) o en hen hnn (by omega) (by omega) (fun h=>by omega) (by omega)⟩
 ·refine⟨.slice (some ⟨en.b,o+l*en.BU,none⟩) (u-l) (cap-l),by simp[Instr.sliceAt,Instr.slice,run_underlying ht,hb,Cq hp,hc,Addr.add_lit,hes], .LP id (off+l) (u-l) (cap-l) _ en hen hnn (by omega) (by omega) (fun h=>by rw[hoff (by omega),Nat.add_mul]) (by omega)⟩
theorem wC {t:TypeId} {x:Operand} {lo hi mx:Option Operand} {K:AV->Prop} (ho:o.op=.slice t x lo hi mx) (h:AbP P s t (ev x) (lo.map ev) (hi.map ev) (mx.map ev) K): ∃r,K r/\EY P o s ev r s:=by
 have hx:x∈o.op.operands.toList:=by simp[ho,Op.operands]
 have hlo: ∀a,lo=some a->a∈o.op.operands.toList:=fun a ha=>by simp[ho,Op.operands,ha]
 have hhi: ∀a,hi=some a->a∈o.op.operands.toList:=fun a ha=>by simp[ho,Op.operands,ha]
 unfold AbP at h
 replace h:=Bn h
 obtain⟨hmx,h⟩:=h
 have hmx:mx=none:=by cases mx<;>simp_all
 subst hmx
 have he: ∀ρ,execOp ρ o=(do pure (.value (<- Instr.sliceAt t (ρ x) (lo.map ρ) (hi.map ρ) none))):=fun ρ=>by simp[execOp,ho]
 split at h
 ·rename_i b ht hev
  obtain⟨l,h,hl⟩:=J8 h
  obtain⟨u,⟨h0,h1,h2,h⟩,hu⟩:=J8 h
  refine⟨_,h,EY.value he fun V w cx ρ S R=>?_⟩
  have hrx:=R x hx
  rw[hev]at hrx
  rw[hrx.QB]
  have:=Hu (P:=P) (b:=false) (len:=b.size) (cap:=b.size) w (He hl fun a ha=>R a (hlo a ha)) (He hu fun a ha=>R a (hhi a ha)) h0 h1 h2
  exact⟨I9 _,by simp[Instr.sliceAt,Instr.slice,run_underlying ht,this,I9], .YP _⟩
 ·rename_i e nl n get ht hev
  obtain⟨l,h,hl⟩:=J8 h
  obtain⟨u,⟨h0,h1,h2,h⟩,hu⟩:=J8 h
  obtain⟨hq,h⟩:=Bn h
  simp only[Bool.and_eq_true,beq_iff_eq]at hq
  obtain⟨hsz,hp⟩:=hq
  have hp:0<P.cellsOf e:=by simpa using hp
  refine⟨_,h,EY.value he fun V w cx ρ S R=>?_⟩
  have hrx:=R x hx
  rw[hev]at hrx
  generalize ρ x=p at hrx
  cases hrx with
  |sl _ _ _ a cap BU vals hnil hcap hmax hz hmem Gr hrel=>
   have:=Hu (P:=P) (b:=true) (len:=n) (cap:=cap) w (He hl fun a ha=>R a (hlo a ha)) (He hu fun a ha=>R a (hhi a ha)) h0 h1 (by omega)
   have a1:l.toNat<=u.toNat:=by omega
   have a2:u.toNat<=n:=by omega
   have a3:u.toNat-l.toNat<=cap-l.toNat:=by omega
   have a4:cap-l.toNat<=maxLen:=by omega
   have a5:cap=0->cap-l.toNat=0:=by omega
   refine⟨_,by simp[Instr.sliceAt,Instr.slice,run_underlying ht,this,Cq hp];rfl,?_⟩
   clear h0 h1 h2 this hl hu
   refine .sl nl (u.toNat-l.toNat) _ _ (cap-l.toNat) BU (fun j c=>vals (l.toNat+j) c) (fun b hb=>?_) a3 a4 (fun hn=>?_) (fun hpos=>?_) (fun j hj=>Gr _ (bV a2 hj)) (fun j c y hj hy=>hrel _ c y (bV a2 hj) hy)
   ·split
    ·exact hnil b hb
    ·rw[Option.isNone_map];exact hnil b hb
   ·split at hn
    ·exact a5 (hz hn)
    ·rw[Option.map_eq_none_iff]at hn;exact a5 (hz hn)
   ·obtain⟨p1,p2,hne⟩:=Ad0 a2 hcap hpos
    obtain⟨b,off,rfl,hA,hb,hm⟩:=hmem p1
    have hes:BU=P.cellsOf e:=by rw[<- hsz];exact(Gr l.toNat p2).2.symm
    refine⟨b,off+l.toNat*BU,?_,hA,hb,fun j c y hj hy=>?_⟩
    ·rw[if_neg hne,Option.map_some,Addr.add_lit,hes]
    ·have:=hm (l.toNat+j) c y (bV a2 hj) hy
     rw[Nat.add_mul,Nat.add_assoc,<- Nat.add_assoc off]at this
     exact this
 ·rename_i e id n ht hev
  split at h
  ·rename_i hlo0
   have hl0:lo=none:=by simpa using hlo0
   obtain⟨u,h2',hu⟩:=J8 h
   obtain⟨hp,h0,h1,hK⟩:=Bn h2'
   have hp:0<P.cellsOf e:=by simpa using hp
   have hl:(lo=none/\(0:Int)=0)∨ ∃a k,lo=some a/\ev a=.int k 0:=.inl ⟨hl0,rfl⟩
   refine⟨_,hK,EY.value he fun V w cx ρ S R=>?_⟩
   have hrx:=R x hx
   rw[hev]at hrx
   generalize ρ x=p at hrx
   cases hrx with
   |ms _ _ cap en hen hnn hn hcap htot hmax=>
    have:=Hu (P:=P) (b:=true) (len:=n) (cap:=cap) w (He hl fun a ha=>R a (hlo a ha)) (He hu fun a ha=>R a (hhi a ha)) (Int.le_refl _) h0 (by omega)
    refine⟨.slice (some ⟨en.b,0,none⟩) u.toNat cap,by simp[Instr.sliceAt,Instr.slice,run_underlying ht,this,Cq hp,Addr.add_zero'], .ms id u.toNat cap en hen hnn (by omega) (by omega) htot hmax⟩
   |ms0 _ en hen hnn=>
    have:=Hu (P:=P) (b:=true) (len:=0) (cap:=0) w (He hl fun a ha=>R a (hlo a ha)) (He hu fun a ha=>R a (hhi a ha)) (Int.le_refl _) h0 (by simpa using h1)
    have hu0:u.toNat=0:=by omega
    rw[hu0]at this
    exact⟨.slice none 0 0,by simp[Instr.sliceAt,Instr.slice,run_underlying ht,this,Cq hp],by rw[hu0];exact .ms0 id en hen hnn⟩
  ·obtain⟨l,h1',hl⟩:=J8 h
   obtain⟨u,h2',hu⟩:=J8 h1'
   obtain⟨hp,h⟩:=Bn h2'
   have hp:0<P.cellsOf e:=by simpa using hp
   split at h
   ·rename_i ob Sd
    obtain⟨hsz,h0,h1,h2,hK⟩:=Bn h
    have hsz:ob.BU=P.cellsOf e:=by simpa using hsz
    refine⟨_,hK,EY.value he fun V w cx ρ S R=>?_⟩
    have hrx:=R x hx
    rw[hev]at hrx
    generalize ρ x=p at hrx
    cases hrx with
    |ms _ _ cap en hen hnn hn hcap htot hmax=>
     have:=Hu (P:=P) (b:=true) (len:=n) (cap:=cap) w (He hl fun a ha=>R a (hlo a ha)) (He hu fun a ha=>R a (hhi a ha)) h0 h1 (by omega)
     obtain⟨cur,RO⟩:=S.obj id en ob hen Sd hnn
     refine zK (P:=P) (t:=t) (e:=e) (l:=l.toNat) (u:=u.toNat) ht hp (by rw[<- hsz,<- RO.BU]) hen hnn this (by omega) (by omega) (by omega) hmax (fun _=>by rw[Nat.zero_mul]) (off:=0) ?_
     simp
    |ms0 _ en hen hnn=>
     have:=Hu (P:=P) (b:=true) (len:=0) (cap:=0) w (He hl fun a ha=>R a (hlo a ha)) (He hu fun a ha=>R a (hhi a ha)) h0 h1 (by simpa using h2)
     have hu0:u.toNat=0:=by omega
     have hl0:l.toNat=0:=by omega
     rw[hu0,hl0]at this
     exact⟨.slice none 0 0,by simp[Instr.sliceAt,Instr.slice,run_underlying ht,this,Cq hp],by rw[hu0,hl0];exact .XK id en hen hnn⟩
   ·exact h.elim
 ·rename_i e id off n ht hev
  obtain⟨l,h1',hl⟩:=J8 h
  obtain⟨u,h2',hu⟩:=J8 h1'
  obtain⟨hp,h⟩:=Bn h2'
  have hp:0<P.cellsOf e:=by simpa using hp
  split at h
  ·rename_i ob Sd
   obtain⟨hsz,h0,h1,h2,hK⟩:=Bn h
   have hsz:ob.BU=P.cellsOf e:=by simpa using hsz
   refine⟨_,hK,EY.value he fun V w cx ρ S R=>?_⟩
   have hrx:=R x hx
   rw[hev]at hrx
   generalize ρ x=p at hrx
   cases hrx with
   |LP _ _ _ cap o' en hen hnn hn hcap hoff hmax=>
    have:=Hu (P:=P) (b:=true) (len:=n) (cap:=cap) w (He hl fun a ha=>R a (hlo a ha)) (He hu fun a ha=>R a (hhi a ha)) h0 h1 (by omega)
    obtain⟨cur,RO⟩:=S.obj id en ob hen Sd hnn
    exact zK (P:=P) (t:=t) (e:=e) (l:=l.toNat) (u:=u.toNat) ht hp (by rw[<- hsz,<- RO.BU]) hen hnn this (by omega) (by omega) (by omega) hmax hoff rfl
   |XK _ en hen hnn=>
    have:=Hu (P:=P) (b:=true) (len:=0) (cap:=0) w (He hl fun a ha=>R a (hlo a ha)) (He hu fun a ha=>R a (hhi a ha)) h0 h1 (by simpa using h2)
    have hu0:u.toNat=0:=by omega
    have hl0:l.toNat=0:=by omega
    rw[hu0,hl0]at this
    exact⟨.slice none 0 0,by simp[Instr.sliceAt,Instr.slice,run_underlying ht,this,Cq hp],by rw[hu0,hl0];exact .XK id en hen hnn⟩
  ·exact h.elim
 ·exact h.elim
theorem Jh {c:Call} {b:Builtin} (ho:o.op=.call c) (hc:c.callee=.builtin b) (ρ:Operand->Value):
  execOp ρ o=builtin b c.argTypes o.type (c.args.map fun| .const _=>true|_=>false) (c.args.map ρ):=by
 simp only[execOp,ho,resolve,hc]
 rfl
theorem Akt {f:Operand->AV} {l:Array Operand} {x:AV} (h:l.toList.map f= [x]): ∃a,l= #[a]/\f a=x:=by
 obtain⟨l⟩:=l
 match l,h with
 | [a],h=>exact⟨a,rfl,by simpa using h⟩
theorem AdO {f:Operand->AV} {l:Array Operand} {x y:AV} (h:l.toList.map f= [x,y]): ∃a b,l= #[a,b]/\f a=x/\f b=y:=by
 obtain⟨l⟩:=l
 match l,h with
 | [a,b],h=>exact⟨a,b,rfl,by simpa using h⟩
theorem iK {l:Array TypeId} {x:TypeId} (h:l.toList= [x]):l= #[x]:=by obtain⟨l⟩:=l;simpa using h
theorem Ahl {l:Array TypeId} {x y:TypeId} (h:l.toList= [x,y]):l= #[x,y]:=by obtain⟨l⟩:=l;simpa using h
theorem Rel.len {w:World} {cx:Cx} {A:Nat->Prop} {x:AV} {v:Value} (h:Rel w cx A x v) {n:Nat} (hx:(∃nl get,x=.sl nl n get)∨(∃id,x=.ms id n)∨ ∃id off,x=.LP id off n): ∃a c,v=.slice a n c:=by
 rcases hx with ⟨nl,get,rfl⟩|⟨id,rfl⟩|⟨id,off,rfl⟩<;>cases h<;>exact⟨_,_,rfl⟩
theorem AbR {c:Call} {x:AV} {K:AV->Prop} (ho:o.op=.call c) (hc:c.callee=.builtin .len) (hx:c.args.toList.map ev= [x]) (h:Aks P s c.argTypes.toList x K): ∃r,K r/\EY P o s ev r s:=by
 obtain⟨a,ha,rfl⟩:=Akt hx
 have hmem:a∈o.op.operands.toList:=by simp[ho,Op.operands,Call.operands,hc,ha]
 unfold Aks at h
 split at h
 ·rename_i t hts
  have hts:=iK hts
  have he: ∀ρ,execOp ρ o=(do pure (.value (<- Builtin.len_ #[t] o.type #[ρ a]))):=fun ρ=>by rw[Jh ho hc,hts,ha];simp[builtin]
  split at h
  ·rename_i b ht hev
   refine⟨_,h,EY.value he fun V w cx ρ S R=>?_⟩
   have hrx:=R a hmem
   rw[hev]at hrx
   rw[hrx.QB]
   exact⟨I9 _,by simp[Builtin.len_,run_underlying ht,goInt,I9], .Kg _ _⟩
  ·rename_i e nl n get ht hev
   refine⟨_,h,EY.value he fun V w cx ρ S R=>?_⟩
   have hrx:=R a hmem
   rw[hev]at hrx
   obtain⟨ad,cp,hv⟩:=hrx.len (.inl ⟨_,_,rfl⟩)
   rw[hv]
   exact⟨I9 _,by simp[Builtin.len_,run_underlying ht,goInt,I9], .Kg _ _⟩
  ·rename_i e id n ht hev
   refine⟨_,h,EY.value he fun V w cx ρ S R=>?_⟩
   have hrx:=R a hmem
   rw[hev]at hrx
   obtain⟨ad,cp,hv⟩:=hrx.len (.inr (.inl ⟨_,rfl⟩))
   rw[hv]
   exact⟨I9 _,by simp[Builtin.len_,run_underlying ht,goInt,I9], .Kg _ _⟩
  ·rename_i e id off n ht hev
   refine⟨_,h,EY.value he fun V w cx ρ S R=>?_⟩
   have hrx:=R a hmem
   rw[hev]at hrx
   obtain⟨ad,cp,hv⟩:=hrx.len (.inr (.inr ⟨_,_,rfl⟩))
   rw[hv]
   exact⟨I9 _,by simp[Builtin.len_,run_underlying ht,goInt,I9], .Kg _ _⟩
  ·rename_i n e hev
   refine⟨_,h,EY.value he fun V w cx ρ S R=>⟨I9 _,?_, .Kg _ _⟩⟩
   simp only[Builtin.len_,Sem.run_bind]
   simp[run_underlying hev,goInt,I9]
  ·exact h.elim
 ·exact h.elim
end
section
variable {V:Nat->Prop} {w w':World} {cx:Cx} {s s1:Store}
theorem Av.push {e:Qr} {ob:E8} (hl:cx.length=s1.length) (hs: ∀(i:Nat) (o:E8),s1[i]? =some (some o)->s[i]? =some (some o)) {b:Nat} (h:Av V (cx++ [e]) (s1++ [some ob]) b):Av V cx s b∨b=e.b:=by
 rcases h with h|⟨i,e',o',he,ho,hr,hn,hb⟩
 ·exact .inl (.inl h)
 ·rw[List.getElem?_append]at he ho
  split at he
  ·rename_i hi
   rw[if_pos (by omega)]at ho
   exact .inl (.inr ⟨i,e',o',he,hs i o' ho,hr,hn,hb⟩)
  ·have:i-cx.length=0:=by
     cases hq:i-cx.length with
     |zero=>rfl
     |succ k=>rw[hq]at he;simp at he
   rw[this]at he
   simp at he
   exact .inr (by rw[<- hb,he])
theorem Wr.push {e:Qr} {ob:E8} (hl:cx.length=s1.length) (hs: ∀(i:Nat) (o:E8),s1[i]? =some (some o)->s[i]? =some (some o)) {b:Nat} (h:Wr (cx++ [e]) (s1++ [some ob]) b):Wr cx s b∨b=e.b:=by
 obtain⟨i,e',o',he,ho,hr,hn,hb⟩:=h
 rw[List.getElem?_append]at he ho
 split at he
 ·rename_i hi
  rw[if_pos (by omega)]at ho
  exact .inl ⟨i,e',o',he,hs i o' ho,hr,hn,hb⟩
 ·have:i-cx.length=0:=by
   cases hq:i-cx.length with
   |zero=>rfl
   |succ k=>rw[hq]at he;simp at he
  rw[this]at he
  simp at he
  exact .inr (by rw[<- hb,he])
theorem CZ {α:Type} {l:List α} {x y:α} {i:Nat} (h:(l++ [x])[i]? =some y):l[i]? =some y∨(i=l.length/\y=x):=by
 rw[List.getElem?_append]at h
 split at h
 ·exact .inl h
 ·rename_i hi
  cases hq:i-l.length with
  |zero=>rw[hq]at h;simp at h;exact .inr ⟨by omega,h.symm⟩
  |succ k=>rw[hq]at h;simp at h
theorem Bj.add (S:Bj L V w cx s) (hl1:s1.length=s.length) (hs: ∀(i:Nat) (o:E8),s1[i]? =some (some o)->s[i]? =some (some o)) (e:Qr) (ob:E8) (cur:Array Value)
  (hos:w'.os=w.os) (AlN:w'.tape=w.tape) (hout:w'.output=w.output) (hsz:w.heap.size<=w'.heap.size)
  (hkeep: ∀b,b<w.heap.size-> ¬Wr cx s b->w'.heap[b]? =w.heap[b]?)
  (hother: ∀(i:Nat) (e':Qr) (o':E8),cx[i]? =some e'->s1[i]? =some (some o')->e'.Fg=false->e'.b≠e.b/\w'.heap[e'.b]? =w.heap[e'.b]?)
  (hnew:w.heap.size<=e.b∨Wr cx s e.b) (hnn:e.Fg=false)
  (hheap:w'.heap[e.b]? =some (.cells cur ob.ety (0,0))) (htot:cur.size=e.tot) (Ld:e.BU=ob.BU) (hlen:e.len=ob.row.len) (hok:ob.row.ok) (hfits:e.len*e.BU<=e.tot)
  (hsize: ∀i,i<e.len->(ob.row.get i).A9=ob.BU)
  (hcells: ∀(i c:Nat) (x:AV),i<e.len->(ob.row.get i).cells[c]? =some x-> ∃v,cur[i*e.BU+c]? =some v/\v.oneCell'=true/\Rel w cx (Av V cx s) x v):
  Bj L V w' (cx++ [e]) (s1++ [some ob])/\Ext s.length V w w' cx (cx++ [e]) s (s1++ [some ob]):=by
 have hl:cx.length=s1.length:=S.len.trans hl1.symm
 have kD: ∀b,b<w.heap.size-> ¬Av V cx s b-> ¬Av V (cx++ [e]) (s1++ [some ob]) b:=fun b hb hA hA'=>by
  rcases Av.push hl hs hA' with h|h
  ·exact hA h
  ·rcases hnew with h'|h'
   ·omega
   ·exact hA (.inr (h▸h'))
 have Sc: ∀ {x:AV} {v:Value},Rel w cx (Av V cx s) x v->Rel w' (cx++ [e]) (Av V (cx++ [e]) (s1++ [some ob])) x v:=fun r=>
  r.move hsz (fun b hb hA=>hkeep b hb fun h=>hA (.inr h)) kD fun i e' he=>by rw[List.getElem?_append_left (List.getElem?_eq_some_iff.1 he).1];exact he
 refine⟨⟨fun b hb=>Nat.lt_of_lt_of_le (S.low b hb) hsz,by simp[hl],fun i e' o' he ho hn=>?_,fun i e' o' he ho hn=>?_,fun i e' o' he ho hm=>?_,fun i e' o' he ho hn=>?_,fun i j ei ej oi oj hei uO hoi hoj hni dO hne nQ=>?_,S.glob.move hsz (fun b hb hA=>hkeep b hb fun h=>hA (.inr h)) kD⟩,
  hos,AlN,hout,hsz,hkeep,kD,fun b hb hw hw'=>?_,fun i e' hi he=>by rw[List.getElem?_append_left (List.getElem?_eq_some_iff.1 he).1];exact he⟩
 ·rcases CZ he with he|⟨hi,rfl⟩
  ·rcases CZ ho with ho|⟨hi,_⟩
   ·obtain⟨cur',R⟩:=S.obj i e' o' he (hs i o' ho) hn
    refine⟨cur',by rw[(hother i e' o' he ho hn).2];exact R.hp,R.tot,R.BU,R.len,R.ok,R.fits,R.size,fun j c x hj hx=>?_⟩
    obtain⟨v,h1,h2,h3⟩:=R.cells j c x hj hx
    exact⟨v,h1,h2,Sc h3⟩
   ·have:=(List.getElem?_eq_some_iff.1 he).1;omega
  ·rcases CZ ho with ho|⟨_,ho⟩
   ·have:=(List.getElem?_eq_some_iff.1 ho).1;omega
   ·cases ho
    refine⟨cur,⟨_,hheap,fun _=>rfl⟩,htot,Ld,hlen,hok,hfits,hsize,fun j c x hj hx=>?_⟩
    obtain⟨v,h1,h2,h3⟩:=hcells j c x hj hx
    exact⟨v,h1,h2,Sc h3⟩
 ·rcases CZ he with he|⟨hi,rfl⟩
  ·rcases CZ ho with ho|⟨hi,_⟩
   ·exact S.gM i e' o' he (hs i o' ho) hn
   ·have:=(List.getElem?_eq_some_iff.1 he).1;omega
  ·rw[hnn]at hn;cases hn
 ·rcases CZ he with he|⟨hi,rfl⟩
  ·rcases CZ ho with ho|⟨hi,_⟩
   ·exact S.may i e' o' he (hs i o' ho) hm
   ·have:=(List.getElem?_eq_some_iff.1 he).1;omega
  ·exact hnn
 ·rcases CZ he with he|⟨hi,rfl⟩
  ·rcases CZ ho with ho|⟨hi,_⟩
   ·exact S.apart i e' o' he (hs i o' ho) hn
   ·have:=(List.getElem?_eq_some_iff.1 he).1;omega
  ·rcases hnew with h|⟨i',e1,o1,he1,ho1,_,hn1,hb1⟩
   ·exact fun hv=>by have:=S.low _ hv;omega
   ·rw[<- hb1];exact S.apart i' e1 o1 he1 ho1 hn1
 ·rcases CZ hei with uN|⟨hi1,hi2⟩<;>rcases CZ uO with uP|⟨hj1,hj2⟩
  ·rcases CZ hoi with Abl|⟨hi,_⟩
   ·rcases CZ hoj with Abm|⟨hj,_⟩
    ·exact S.inj i j ei ej oi oj uN uP (hs i oi Abl) (hs j oj Abm) hni dO hne nQ
    ·have:=(List.getElem?_eq_some_iff.1 uP).1;omega
   ·have:=(List.getElem?_eq_some_iff.1 uN).1;omega
  ·rcases CZ hoi with Abl|⟨hi,_⟩
   ·rw[hj2];exact(hother i ei oi uN Abl hni).1
   ·have:=(List.getElem?_eq_some_iff.1 uN).1;omega
  ·rcases CZ hoj with Abm|⟨hj,_⟩
   ·rw[hi2];exact fun h=>(hother j ej oj uP Abm dO).1 h.symm
   ·have:=(List.getElem?_eq_some_iff.1 uP).1;omega
  ·omega
 ·rcases Wr.push hl hs hw' with h|h
  ·exact hw h
  ·rcases hnew with h'|h'
   ·omega
   ·exact hw (h▸h')
theorem Bj.alloc (S:Bj L V w cx s) (ob:E8) (cur:Array Value) (hok:ob.row.ok) (hfits:ob.row.len*ob.BU<=cur.size)
  (hsize: ∀i,i<ob.row.len->(ob.row.get i).A9=ob.BU)
  (hcells: ∀(i c:Nat) (x:AV),i<ob.row.len->(ob.row.get i).cells[c]? =some x-> ∃v,cur[i*ob.BU+c]? =some v/\v.oneCell'=true/\Rel w cx (Av V cx s) x v):
  Bj L V (w.alloc (.cells cur ob.ety)) (cx++ [⟨w.heap.size,ob.BU,ob.row.len,cur.size,false⟩]) (s++ [some ob])/\
  Ext s.length V w (w.alloc (.cells cur ob.ety)) cx (cx++ [⟨w.heap.size,ob.BU,ob.row.len,cur.size,false⟩]) s (s++ [some ob]):=
 S.add rfl (fun _ _ h=>h) _ ob cur rfl rfl rfl (by simp) (fun b hb _=>heap_alloc_old w _ b hb)
   (fun i e' o' he ho hn=>by
     obtain⟨cur',R⟩:=S.obj i e' o' he ho hn
     have hlt:=R.lt
     exact⟨fun h=>by simp at h;omega,heap_alloc_old w _ _ hlt⟩)
   (.inl (Nat.le_refl _)) rfl (heap_alloc_new w _) rfl rfl rfl hok hfits hsize hcells
theorem Abv {A:Nat->Prop} {e:Qr} (hl:cx.length=s.length) (hn:e.Fg=false) (h0:0<e.len):Rel w' (cx++ [e]) A (.mp s.length 0 0) (.pointer (some ⟨e.b,0,none⟩)):=by
 have:=Rel.mp (w:=w') (A:=A) (cx:=cx++ [e]) s.length 0 0 e (by rw[<- hl];simp) hn h0
 simpa using this
end
end Go.SE
