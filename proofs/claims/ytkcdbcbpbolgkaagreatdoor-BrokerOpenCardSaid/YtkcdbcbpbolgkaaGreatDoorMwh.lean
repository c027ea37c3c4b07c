/- Texts Axc, Ay. -/
import Derived.Test.YtkcdbcbpbolgkaaGreatDoorMwg
import Derived.RangeFuncRecord
set_option linter.unusedSimpArgs false
set_option linter.unusedVariables false
set_option linter.defProp false
set_option maxRecDepth 100000
noncomputable section
namespace Go.Abs
section
variable {P:Program} {mu:List Nat} {N k0:Nat} {g g0:Ghost} {w w0:World} {st:St} {a:Act}
structure Marks (g0:Ghost) (w0:World) (g:Ghost) (w:World) (ds:List Deferred):Prop where
 one: ∀d∈ds,∃b,d.target= .collected b∧w0.heap.size<=b∧g b= .out∧w.heap[b]? =some (.deferred (some []))
 two:ds.Pairwise λd e=>d.target≠e.target
theorem Marks.step {i:List Deferred} {g':Ghost} {w':World} (h:Marks g0 w0 g w i) (hG:G g w g' w'):Marks g0 w0 g' w' i:=by
 refine⟨λd hd=> ?_,h.two⟩;obtain⟨b,h1,h2,h3,e⟩:=h.one d hd;obtain⟨q1,q2⟩:=hG.out b (jA5.1 e).1 h3;exact⟨b,h1,h2,q2,by rw[q1];exact e⟩
theorem Marks.turn {e:List Deferred} {g':Ghost} (h:Marks g0 w0 g w e) (ho: ∀b,g b= .out->g' b= .out):Marks g0 w0 g' w e:=
 ⟨λd hd=>let⟨b,h1,h2,h3,h4⟩:=h.one d hd;⟨b,h1,h2,ho b h3,h4⟩,h.two⟩
end
def q9e (F:Fence) (m:Nat) (P:Program) (l:Nat) (args:Array Value) (W:World) (R:Ending->World->Prop):Prop:=
 ∃fn tmps assign body,(Instr.yield l args).run P W= .ok (.round l fn tmps assign body) W∧RoundIn F m P l fn tmps assign body W R
def ASeq (P:Program) (q:FuncId) (m:List D) (objs:List AObj) (h:List (List D)):Prop:=
 (P.funcs[q]?).any (λfn=>fn.body.isSome&& !(fn.name== "runtime.NumGoroutine"))=true∧
 ∀(g:Ghost) (w:World) (o:List Value) (l:Nat) (J:Nat->World->Prop),Dom g w->o.length=m.length->
  (∀(i:Nat) (v:Value) (d:D),o[i]? =some v->m[i]? =some d->RV g w v d) ->ObjsOk g w [] objs->
  (∀k W W',J k W->W'.os=W.os->W'.tape=W.tape->W'.output=W.output->W'.heap.size=W.heap.size->(∀b,(∀id,g b≠ .obj id) ->W'.heap[b]? =W.heap[b]?) ->J k W') ->
  (∀(k:Nat) (p:List D) (vs:List Value) (W1:World),h[k]? =some p->J k W1->vs.length=p.length->(∀(i:Nat) (v:Value) (d:D),vs[i]? =some v->p[i]? =some d->RV g w v d) ->
   q9e (Fw none) 0 P l vs.toArray W1 λe W'=>e= .returned (.bool true)∧J (k+1) W'∧ ∀b id,g b= .obj id->W'.heap[b]? =W1.heap[b]?) ->
  J 0 w->
  CallsIn (Fw none) 0 P q (#[.func (.yield l) #[] #[]]++o.toArray) w λe W'=>(∃v,e= .returned v)∧J h.length W'
def xl8 (P:Program) (p:FuncId) (m:List Int) (h:List (List D)):Prop:=
 (P.funcs[p]?).any (λfn=>fn.body.isSome&& !(fn.name== "runtime.NumGoroutine"))=true∧
 ∀(w:World) (bx q:Nat) (l:Nat) (J:Nat->World->Prop) (E:World->Prop),
  (∀k W,J k W->(∃(c:Array Value) (e:TypeId),W.heap[bx]? =some (.cells c e (0,0))∧c[0]? =some (.pointer (some ⟨q,0,none⟩)))∧ ∃(c:Array Value) (e:TypeId),W.heap[q]? =some (.cells c e (0,0))∧ ∀(i:Nat) (x:Int),m[i]? =some x->c[i]? =some (Value.int .i64 x)) ->
  (∀(k:Nat) (o:List D) (vs:List Value) (W1:World),h[k]? =some o->J k W1->vs.length=o.length->(∀(i:Nat) (v:Value) (d:D),vs[i]? =some v->o[i]? =some d->RV (λ_=> .out) W1 v d) ->
   q9e (Fw none) 0 P l vs.toArray W1 λe W'=>(e= .returned (.bool true)∧J (k+1) W')∨(e= .returned (.bool false)∧E W')) ->
  J 0 w->
  CallsIn (Fw none) 0 P p (#[.func (.yield l) #[] #[]]++ #[.pointer (some ⟨bx,0,none⟩)]) w λe W'=>(∃v,e= .returned v)∧(J h.length W'∨E W')
def Fr.plain:Fr->Bool
 | []=>true
 |(_,true,.d _)::r=>Fr.plain r
 | _=>false
def jo:List Nat->List D->Fr->Fr
 |p::ps,d::ds,fr=>jo ps ds ((p,true,.d d)::fr)
 | _,_,fr=>fr
theorem Fr.plain_get: ∀{fr:Fr},fr.plain=true-> ∀(k:Nat) (v:Bool) (s:ASlot),fr.get k=some (v,s) ->v=true∧ ∃d,s= .d d
 | [],_,k,v,s,h=>by simp[Fr.get]at h
 |(j,v',s')::r,hp,k,v,s,h=>by
  cases v'<;>cases s'<;>simp only[Fr.plain,jAw]at hp
  simp only[Fr.get]at h;split at h
  ·cases h;exact⟨rfl,_,rfl⟩
  ·exact Fr.plain_get hp k v s h
theorem qe9: ∀(ps:List Nat) (e:List D) (fr:Fr),fr.plain=true->(jo ps e fr).plain=true
 | [],_,_,h=>by simpa[jo]using h
 | _::_,[],_,h=>by simpa[jo]using h
 |p::ps,d::e,fr,h=>by simp only[jo];exact qe9 ps e _ (by simpa[Fr.plain]using h)
section
variable {P:Program} {mu:List Nat} {N k0:Nat} {g g' g0:Ghost} {w w' w0:World} {st:St} {a:Act} {T:Nat→Prop}
def FrRV (g:Ghost) (w:World) (fr:Fr) (tmps:Array Value):Prop:= ∀(k:Nat) (d:D),fr.get k=some (true,.d d) ->RV g w (tmps.getD k undef) d
theorem FrRV.mono {fr:Fr} {tmps:Array Value} (h:FrRV g w fr tmps) (e:Dom g w) (l:G g w g' w'):FrRV g' w' fr tmps:=
 λk d hk=>(h k d hk).mono (l.rowsKept e) (λb id i=>l.obj b id (e.lt_obj i) i)
theorem SR.plain (hs:SR N T g w st a) {fr:Fr} (hp:fr.plain=true) {a':Act} (hN:a'.tmps.size=N) (h:FrRV g w fr a'.tmps):SR N T g w {st with fr:=fr} a':=by
 refine⟨hs.dom,trivial,hN,λk v s e=> ?_,hs.objs,hs.inj,hs.ids,⟨hs.wf.live,λk s e t ht=> ?_,hs.wf.os⟩⟩
 ·obtain⟨rfl,d,rfl⟩:=Fr.plain_get hp k v s e;exact⟨λ_=>h k d e,λh=>by cases h⟩
 ·obtain⟨_,d,rfl⟩:=Fr.plain_get hp k _ s e;simp[ASlot.toks]at ht
theorem xfs (hs:SR N T g w st a):FrRV g w st.fr a.tmps:=λk _ hk=>(hs.slots k true _ hk).1 rfl
theorem qxl: ∀(ps:List Nat) (e:List D) (vs:List Value) (fr:Fr) (tmps:Array Value),e.length=ps.length->vs.length=ps.length->(∀p∈ps,p<tmps.size) ->FrRV g w fr tmps->
  (∀(i:Nat) (v:Value) (d:D),vs[i]? =some v->e[i]? =some d->RV g w v d) ->FrRV g w (jo ps e fr) ((ps.zip vs).foldl (λt (p,v)=>t.setIfInBounds p v) tmps)
 | [],[],[],fr,tmps,_,_,_,h,_=>by simpa[jo]using h
 |p::ps,d::e,v::vs,fr,tmps,h1,h2,h3,h,hr=>by
  simp only[jo,List.zip_cons_cons,List.foldl_cons];refine qxl ps e vs _ _ (by simpa using h1) (by simpa using h2) (λq hq=>by simpa using h3 q (jA9 _ hq)) ?_ (λi v d hv hd=>hr (i+1) v d (by simpa using hv) (by simpa using hd));intro k x l;simp only[Fr.get]at l;split at l
  ·rename_i m;subst m;cases l;have hp:=h3 p jA7;rw[jBg,Array.getElem?_setIfInBounds_self_of_lt hp];exact hr 0 v d rfl rfl
  ·rename_i m;rw[jBg,jEg m,<- jBg];exact h k x l
 | [],_::_,_,_,_,h,_,_,_,_=>by simp at h
 | _::_,[],_,_,_,h,_,_,_,_=>by simp at h
 | [],[],_::_,_,_,_,h,_,_,_=>by simp at h
 | _::_,_::_,[],_,_,_,h,_,_,_=>by simp at h
theorem qnd: ∀(l:List (Nat×Value)) (tmps:Array Value),(l.foldl (λt (p,v)=>t.setIfInBounds p v) tmps).size=tmps.size
 | [],_=>rfl
 |x::l,tmps=>by rw[List.foldl_cons,qnd l];simp
theorem G.beyond (h:G g0 w0 g w) (o:w'.os=w.os) (ht:w'.tape=w.tape) (ho:w'.output=w.output) (m:w.heap.size<=w'.heap.size)
  (l: ∀b r,b<w0.heap.size->g0 b=r->(∀t,r≠ .uni t) ->w'.heap[b]? =w.heap[b]?):G g0 w0 g w':=by
 refine⟨o.trans h.os,ht.trans h.tape,ho.trans h.output,jBn h.size m,λb e d=> ?_,λb n e d=> ?_,λb n t e d=> ?_,λb id e d=> ?_⟩
 ·rw[l b _ e d (by simp)];exact h.out b e d
 ·rw[l b _ e d (by simp)];exact h.rowN b n e d
 ·obtain⟨n',o',q1,q2,q3⟩:=h.rowS b n t e d;exact⟨n',o',q1,q2,λi u hi hu=>by rw[kj (l b _ e d (by simp))];exact q3 i u hi hu⟩
 ·rw[jl (l b _ e d (by simp))];exact h.obj b id e d
theorem xft (hs:SR N T g w st a) {ι:List Nat} {fo:List AObj} (I:ι.Nodup) (A:ι.length=fo.length) (R:qef ι st.os ι fo) (hik:fo.all (AObj.inK fo.length)=true):ObjsOk (xw [] ι g) w [] fo:=by
 have ab:=qe6 [] ι g w;have F: ∀(b id j:Nat),g b= .obj id->ι[j]? =some id->xw [] ι g b= .obj j:=by
  intro b id j q X;unfold xw;rw[q];simp only[qdn I X]
 have l: ∀(b j:Nat),xw [] ι g b= .obj j-> ∃id,g b= .obj id∧ι[j]? =some id:=by
  intro b j h;unfold xw at h;cases q:g b with
  |out=>rw[q]at h;cases h
  |row n o=>rw[q]at h;cases o<;>cases h
  |uni t=>rw[q]at h;simp only at h;split at h<;>cases h
  |obj id=>
   rw[q]at h;simp only at h;split at h
   ·rename_i j' hp;cases h;exact⟨id,rfl,qgj hp⟩
   ·cases h
 refine⟨λj o X ad=> ?_,λb b' j h h'=> ?_,λb j h=> ?_⟩
 ·obtain⟨id,c,E,M,z⟩:=qeu R j o X;cases o with
  |none=>exact(ad rfl).elim
  |map es' c'=>
   cases c with
   |map es c0=>
    obtain⟨rfl,rfl⟩:es=es'∧c0=c':=z;rcases hs.objs id _ M (by simp)with⟨b,q,hr⟩|⟨Z,_⟩
    ·exact .inl ⟨b,F b id j q E,MapIs.mono hr ab rfl⟩
    ·cases Z
   | _=>exact z.elim
  |iter m since seen last=>cases c<;>exact z.elim
  |row u=>
   cases c with
   |none=>exact z.elim
   |map _ _=>exact z.elim
   |iter _ _ _ _=>exact z.elim
   |row cs=>
    rcases hs.objs id _ M (by simp)with⟨b,q,ca,e,hh,hl,hcc⟩|⟨Z,ac⟩;case inr=>
     have af:cs= []:=by simpa using Z
     subst af;have ae:u= []:=by
      cases u with
      |nil=>rfl
      |cons f u=>exact(show qga [] ((f::u).map (ASlot.ren1 ι))from z).elim
     subst ae;refine .inr ⟨rfl,λb q=> ?_⟩;obtain⟨O,G,B⟩:=l b j q;rw[E]at B;cases B;exact ac b G
    have p:=jAx.1 hik _ (jAe X);simp only[AObj.inK,jAx]at p;have key: ∀(cs u:List ASlot),qga cs (u.map (ASlot.ren1 ι)) ->u.length<=cs.length∧ ∀(i:Nat) (f:ASlot),u[i]? =some f-> ∃s,cs[i]? =some s∧q09 s (f.ren1 ι):=by
     intro cs u;induction u generalizing cs with
     |nil=>intro _;exact⟨jAj _,by simp⟩
     |cons f u ih=>
      intro h;cases cs with
      |nil=>exact h.elim
      |cons s cs=>
       obtain⟨G,B⟩:=h;obtain⟨k1,Y⟩:=ih cs B;refine⟨by simp;omega,λi f' J=> ?_⟩;cases i with
       |zero=>simp at J;subst J;exact⟨s,rfl,G⟩
       |succ i=>simpa using Y i f' (by simpa using J)
    obtain⟨k1,Y⟩:=key cs u z;refine .inl ⟨b,F b id j q E,ca,e,hh,by omega,λi f J=> ?_⟩;obtain⟨s,aa,C⟩:=Y i f J;obtain⟨v,v1,v2,v3⟩:=hcc i s aa;refine⟨v,v1,v2,?_⟩;cases f with
    |d x=>
     have hk:=p _ (jAe J);have:=(qxc (jq v3) C).down (hs:= []) I (k:=fo.length) (by omega) rfl hk;rwa [<- A,jAr]at this
    |bad=>trivial
    |own t' es' rows'=>
     cases s with
     |own t es rows=>
      obtain⟨rfl,he⟩:=C;have hk:=p _ (jAe J);have G:RV g w v (.sl es (D.renR ι rows')):=qcd v3.1 ⟨.inl rfl,he⟩;have B:=G.down (hs:= []) (y:= .sl es rows') I (k:=fo.length) (by omega) rfl (by simp only[D.inK];exact hk);rw[<- A,jAr]at B;exact⟨B,λh=>by cases h⟩
     | _=>exact C.elim
    | _=>cases s<;>exact C.elim
 ·obtain⟨id,G,B⟩:=l b j h;obtain⟨O,h3,h4⟩:=l b' j h';rw[B]at h4;cases h4;exact hs.inj b b' id G h3
 ·obtain⟨id,G,B⟩:=l b j h;have U:j<fo.length:=by rw[<- A];exact(jAd.1 B).1
  refine⟨fo[j],jAa U,λhn=> ?_⟩;obtain⟨O,c,E,M,z⟩:=qeu R j _ (jAa U);rw[hn]at z;cases c<;>exact z.elim
theorem RowsKept.trans {g'':Ghost} {w'':World} (h:RowsKept g w g' w') (k:RowsKept g' w' g'' w''):RowsKept g w g'' w'':=by
 intro b n o hg;obtain⟨n',o',h1,h2,h3⟩:=h b n o hg;obtain⟨n'',o'',k1,k2,k3⟩:=k b n' o' h1;exact⟨n'',o'',k1,by omega,λi u hi hu=>k3 i u (by omega) (h3 i u hi hu)⟩
theorem RowsKept.still (hw: ∀k,g k≠ .out->w'.heap[k]? =w.heap[k]?):RowsKept g w g w':=
 λb n o d=>⟨n,o,d,jAi _,λi u _ hu=>by rw[kj (hw b (by rw[d];simp))];exact hu⟩
theorem FrRV.still {fr:Fr} {tmps:Array Value} (h:FrRV g w fr tmps) (e: ∀k,g k≠ .out->w'.heap[k]? =w.heap[k]?):FrRV g w' fr tmps:=
 λk d hk=>(h k d hk).mono (RowsKept.still e) (λb id i=>⟨i,jBt (jl (e b (by rw[i];simp))).symm⟩)
theorem Marks.world {e:List Deferred} (h:Marks g0 w0 g w e) (hw: ∀d∈e,∀b,d.target= .collected b->w'.heap[b]? =w.heap[b]?):Marks g0 w0 g w' e:=
 ⟨λd i=>let⟨b,h1,h2,h3,h4⟩:=h.one d i;⟨b,h1,h2,h3,by rw[hw d i b h1];exact h4⟩,h.two⟩
theorem Turn.rows {st':St} (h:Turn k0 st st') (hs:SR N (Go.Abs.below st.nt) g w st a) (m:G g0 w0 g w) (h0: ∀b id,g0 b= .obj id->id<k0):
  ∃g',SR N (Go.Abs.below st'.nt) g' w st' a∧G g0 w0 g' w∧(∀b,g b= .out->g' b= .out)∧RowsKept g w g' w∧ ∀b id,id<k0->g b= .obj id->g' b= .obj id:=by
 let l:Ghost:=λb=>match g b with| .row n o=> .row n o| .obj id=>if id<k0 then .obj id else .uni 0| .out=> .out| .uni _=> .uni 0
 have x1: ∀b,g b= .out->l b= .out:=λb d=>by simp only[l,d]
 have A: ∀b n o,g b= .row n o->l b= .row n o:=λb n o d=>by simp only[l,d]
 have F: ∀b id,g b= .obj id->id<k0->l b= .obj id:=λb id d z=>by simp only[l,d,if_pos z]
 have y1: ∀b,l b= .out->g b= .out:=λb d=>by
  simp only[l]at d;cases e:g b with
  |out=>rfl
  |row n o=>rw[e]at d;cases d
  |uni t=>rw[e]at d;cases d
  |obj id=>rw[e]at d;simp only at d;split at d<;>cases d
 have E: ∀b n o,l b= .row n o->g b= .row n o:=λb n o d=>by
  simp only[l]at d;cases e:g b with
  |out=>rw[e]at d;cases d
  |row n' o'=>rw[e]at d;exact d
  |uni t=>rw[e]at d;cases d
  |obj id=>rw[e]at d;simp only at d;split at d<;>cases d
 have C: ∀b id,l b= .obj id->g b= .obj id∧id<k0:=λb id d=>by
  simp only[l]at d;cases e:g b with
  |out=>rw[e]at d;cases d
  |row n' o'=>rw[e]at d;cases d
  |uni t=>rw[e]at d;cases d
  |obj id'=>
   rw[e]at d;simp only at d;split at d
   ·rename_i z;cases d;exact⟨rfl,z⟩
   ·cases d
 have hX:G l w g w:=⟨rfl,rfl,rfl,jAi _,λb _ d=>⟨rfl,y1 b d⟩,λb n _ d=>⟨rfl,E b n _ d⟩,λb n t _ d=>⟨n,_,E b n _ d,jAi _,λ_ _ _ h=>h⟩,λb id _ d=>⟨(C b id d).1,jAi _⟩⟩;obtain⟨g',k1,v,I⟩:=h.sr hs hX (λb id d=>(C b id d).2);refine⟨g',k1,⟨m.os,m.tape,m.output,m.size,λb d e=> ?_,λb n d e=> ?_,λb n t d e=> ?_,λb id d e=> ?_⟩,I,λb n o e=>v.row (hs.dom.lt_row e) (A b n o e),λb id z d=>(v.obj b id (hs.dom.lt_obj d) (F b id d z)).1⟩
 ·obtain⟨p,q⟩:=m.out b d e;exact⟨p,I b q⟩
 ·obtain⟨p,q⟩:=m.rowN b n d e;exact⟨p,(v.rowN b n (jBw d m.size) (A b n _ q)).2⟩
 ·obtain⟨n',o',p,q,q3⟩:=m.rowS b n t d e;obtain⟨n'',o'',B,r2,r3⟩:=v.row (jBw d m.size) (A b n' o' p);exact⟨n'',o'',B,by omega,λi u hi hu=>r3 i u (by omega) (q3 i u hi hu)⟩
 ·obtain⟨p,q⟩:=m.obj b id d e;obtain⟨B,r2⟩:=v.obj b id (jBw d m.size) (F b id p (h0 b id e));exact⟨B,by omega⟩
theorem qbl (w:World) (o:Obj) (k:Nat) (h:k<w.heap.size):(w.alloc o).heap[k]? =w.heap[k]? :=by
 show(w.heap.push o)[k]? =_;rw[Array.getElem?_push,if_neg (by omega)]
theorem qcs (W:World) (l:Nat) (o:Obj):W.heap.size<=(W.putObj l o).heap.size:=jBt World.putObj_size.symm
theorem qor {F:Fence} {P:Program} {f:FuncId} {args:Array Value} {w:World} {R:Ending->World->Prop} (h:CallsIn F 0 P f args w R):CallsIn F (0-1) P f args w R:=h
theorem q1m {f:Operand} {f':Opd} {ps:Array Tmp} {ac bc:Code} {R:Exit->Act->World->Prop} {gf:FuncId} {ab:List D} {ι:List Nat} {fo:List AObj} {M:List (List D)} {S:Nat->St} {I:Fr}
  (hs:SR N T g w st a) (hG:G g0 w0 g w) (hM:Marks g0 w0 g w a.defers) (h0: ∀b id,g0 b= .obj id->id<k0)
  (hf:qr f=some f') (h1:f'.ok st.fr=true) (h2:f'.get st.fr= .d (.func (.func gf) [] (ab.map (D.ren ι)))) (aw:ASeq P gf ab fo M)
  (bz: ∀d∈ab,d.inK fo.length=true) (a7:ι.Nodup) (am:ι.length=fo.length) (br:qef ι st.os ι fo) (hik:fo.all (AObj.inK fo.length)=true) (b7: ∀id∈ι,k0<=id)
  (bi: ∀vs∈M,vs.length=ps.size∧D.noPtrL vs=true) (bp: ∀p∈ps.toList,p<N) (bd:I.plain=true) (cf: ∀k,(S k).fr=I) (ce: ∀k id,id∈ι->yq (S k).os id=false)
  (bh:Weak k0 st (S 0))
  (ae: ∀k vs,M[k]? =some vs-> ∀l E W1 a1,SR N (below (S k).nt) E W1 {S k with fr:=jo ps.toList vs I} a1->a1.defers= [] ->
   ac.wpIn (Fw (some l)) 0 P (Exit.then (λa2 W2=> ∃ga st2,SR N (below st2.nt) ga W2 st2 a2∧G E W1 ga W2∧
    ∀W2',SR N (below st2.nt) ga W2' st2 a2->bc.wpIn (Fw (some l)) 0 P (λe a3 W3=>e= .normal∧ ∃gb af,SR N (below af.nt) gb W3 af a3∧G ga W2' gb W3∧Turn k0 {af with fr:=I} (S (k+1))) a2 W2') (λ_ _ _=>False)) a1 W1)
  (hR: ∀g' w' a',SR N (below (S M.length).nt) g' w' (S M.length) a'->G g0 w0 g' w'->Marks g0 w0 g' w' a'.defers->R .normal a' w'):
  (Code.rangeFunc f ps ac bc).wpIn (Fw none) 0 P R a w:=by
 have a6:=xh hs hf h1;rw[h2]at a6;have au:=ws a6;generalize b8:a.eval f=fv at au;cases au with
 |func _ vf vc _ _ l1 l2 r1 r2=>
 have bj:vf= []:=jAy (by simpa using l1);subst bj;obtain⟨m,bl⟩:=aw;refine wpIn_rangeFunc λfn _=> ?_;let u:LoopState->Option Code->Loop:=λst pe=>{state:=st,pending:=pe,fn,tmps:=a.tmps,params:=ps,assign:=ac,body:=bc,defers:=w.heap.size}
 let W1:=(w.alloc (.deferred (some []))).alloc (.loop (u .ready none))
 let l:=w.heap.size+1
 have ci:W1.heap[l]? =some (.loop (u .ready none)):=by
  have:=World.alloc_heap_new (w.alloc (.deferred (some []))) (.loop (u .ready none));rwa [World.size_alloc]at this
 have cj:W1.heap[w.heap.size]? =some (.deferred (some [])):=by
  exact(qbl _ _ _ (by simp)).trans (World.alloc_heap_new w _)
 have hold: ∀b,b<w.heap.size->W1.heap[b]? =w.heap[b]? :=λb m=>by
  exact(qbl _ _ _ (by simp;omega)).trans (qbl _ _ _ m)
 have hsz1:W1.heap.size=w.heap.size+2:=by simp[W1]
 have aa: ∀k,g k≠ .out->W1.heap[k]? =w.heap[k]? :=λk hk=>hold k (by
  rcases jB9 k w.heap.size with h|h
  ·exact h
  ·exact(hk (hs.dom.1 k h)).elim)
 have ai:SR N T g W1 st a:=hs.still aa (by omega);have aq:Dom (xw [] ι g) W1:=⟨λb m=>by unfold xw;rw[ai.dom.1 b m],ai.dom.2.ghost λb n h=>by unfold xw;rw[h]⟩;have bw: ∀(i:Nat) (v:Value) (d:D),vc[i]? =some v->ab[i]? =some d->RV (xw [] ι g) W1 v d:=by
  intro i v d hv C;have h:=r2 i v (d.ren ι) hv (by rw[jAn,C];rfl);have:=(h.mono (RowsKept.still aa) (λk id hk=>⟨hk,jBt (jl (aa k (by rw[hk];simp))).symm⟩)).down (hs:= []) a7 (k:=fo.length) (by omega) rfl (bz d (jAe C));rwa [<- am,jAr]at this
 have ak:=xft ai a7 am br hik;have A: ∀b j,xw [] ι g b= .obj j-> ∃id,id∈ι∧g b= .obj id:=by
  intro b j h;unfold xw at h;cases m:g b with
  |out=>rw[m]at h;cases h
  |row n o=>rw[m]at h;cases o<;>cases h
  |uni t=>rw[m]at h;simp only at h;split at h<;>cases h
  |obj id=>
   rw[m]at h;simp only at h;split at h
   ·rename_i j' hp;cases h;exact⟨id,jAe (qgj hp),rfl⟩
   ·cases h
 have aj: ∀b n o,xw [] ι g b= .row n o-> ∃o',g b= .row n o':=by
  intro b n o h;unfold xw at h;cases m:g b with
  |out=>rw[m]at h;cases h
  |row n' o'=>rw[m]at h;cases o'<;>cases h<;>exact⟨_,rfl⟩
  |uni t=>rw[m]at h;simp only at h;split at h<;>cases h
  |obj id=>rw[m]at h;simp only at h;split at h<;>cases h
 have b0: ∀b,w.heap.size<=b->g b= .out:=hs.dom.1;have htk: ∀b id,id∈ι->g b= .obj id->b<w.heap.size:=λb id _ m=>hs.dom.lt_obj m;let J:Nat->World->Prop:=λk W=> ∃E,SR N (below (S k).nt) E W (S k) a∧G g0 w0 E W∧Marks g0 w0 E W a.defers∧RowsKept g W1 E W∧W.heap[l]? =some (.loop (u .ready none))∧
  W.heap[w.heap.size]? =some (.deferred (some []))∧E l= .out∧E w.heap.size= .out∧ ∀b id,id∈ι->g b= .obj id->E b= .out
 have bt: ∀b r,b<w0.heap.size->g0 b=r->(∀t,r≠ .uni t) -> ∀j,xw [] ι g b≠ .obj j:=by
  intro b r m hr hu j hj;obtain⟨id,B,z⟩:=A b j hj;cases r with
  |out=>have:=(hG.out b m hr).2;rw[z]at this;cases this
  |row n o=>obtain⟨n',o',q,_⟩:=hG.row m hr;rw[z]at q;cases q
  |uni t=>exact hu t rfl
  |obj ar=>
   have:=(hG.obj b ar m hr).1;rw[z]at this;cases this;have:=h0 b id hr;have:=b7 id B;omega
 have ag: ∀d∈a.defers,∀b,d.target= .collected b->b<w.heap.size∧g b= .out∧ ∀j,xw [] ι g b≠ .obj j:=by
  intro d C b m;obtain⟨b',Y,O,q3,q4⟩:=hM.one d C;rw[m]at Y;cases Y;refine⟨(jA5.1 q4).1,q3,λj hj=> ?_⟩;obtain⟨id,_,z⟩:=A b j hj;rw[q3]at z;cases z
 have a9: ∀b,w.heap.size<=b-> ∀j,xw [] ι g b≠ .obj j:=by
  intro b m j hj;obtain⟨id,_,z⟩:=A b j hj;rw[b0 b m]at z;cases z
 have av:w0.heap.size<=w.heap.size:=hG.size;have ck:J 0 W1:=by
  obtain⟨g1,k1,k2,k3,k4,k5,_⟩:=bh.srD hs hG h0;have ad: ∀b,g1 b≠ .out->W1.heap[b]? =w.heap[b]? :=λb m=>hold b (by
   rcases jB9 b w.heap.size with h|h
   ·exact h
   ·exact(m (k1.dom.1 b h)).elim)
  refine⟨g1,k1.still ad (by omega),k2.beyond rfl rfl rfl (by omega) (λb r m _ _=>hold b (by omega)),(hM.turn k3).world (λd C b m=>hold b (ag d C b m).1),((RowsKept.still (w:=W1) (w':=w) λk hk=>(aa k hk).symm).trans k5).trans (RowsKept.still ad),ci,cj,k1.dom.1 l (by simp[l]),k1.dom.1 _ (jAi _),λb id B m=> ?_⟩;rcases k4 b id m with h|h
  ·obtain⟨o,Y,O⟩:=k1.ids b id h;have:=ce 0 id B;unfold yq at this;rw[Y]at this;cases o with
   |none=>exact(O rfl).elim
   | _=>simp at this
  ·exact h
 have cd: ∀k W W',J k W->W'.os=W.os->W'.tape=W.tape->W'.output=W.output->W'.heap.size=W.heap.size->(∀b,(∀id,xw [] ι g b≠ .obj id) ->W'.heap[b]? =W.heap[b]?) ->J k W':=by
  rintro k W W' ⟨E,j1,j2,j3,j4,j5,j6,j7,j8,j9⟩ Y O q3 q4 q5;have ad: ∀b,E b≠ .out->W'.heap[b]? =W.heap[b]? :=λb m=>q5 b (λj hj=>by
   obtain⟨id,B,z⟩:=A b j hj;exact m (j9 b id B z))
  exact⟨E,j1.still ad (by omega),j2.beyond Y O q3 (by omega) (λb r m hr hu=>q5 b (bt b r m hr hu)),j3.world (λd C b m=>q5 b (ag d C b m).2.2),j4.trans (RowsKept.still ad),
   by rw[q5 l (a9 l (by simp[l]))];exact j5,by rw[q5 _ (a9 _ (jAi _))];exact j6,j7,j8,j9⟩
 have bn: ∀(k:Nat) (ds:List D) (vs:List Value) (W:World),M[k]? =some ds->J k W->vs.length=ds.length->(∀(i:Nat) (v:Value) (d:D),vs[i]? =some v->ds[i]? =some d->RV (xw [] ι g) W1 v d) ->
   q9e (Fw none) 0 P l vs.toArray W λe W'=>e= .returned (.bool true)∧J (k+1) W'∧ ∀b id,xw [] ι g b= .obj id->W'.heap[b]? =W.heap[b]? :=by
  rintro k ds vs W hk ⟨E,j1,j2,j3,j4,j5,j6,j7,j8,j9⟩ hvs au;obtain⟨ca,b9⟩:=bi ds (jAe hk);have hy:=run_yield (P:=P) (args:=vs.toArray) j5 (by simp[u];omega);refine⟨fn,_,ac,bc,hy,roundIn_of_wpIn (F:=Fw none) trivial ?_⟩;have ao:(ps.zip vs.toArray).foldl (λt (x:Nat×Value)=>t.setIfInBounds x.1 x.2) a.tmps=(ps.toList.zip vs).foldl (λt (x:Nat×Value)=>t.setIfInBounds x.1 x.2) a.tmps:=by
   rw[<- jFt,Array.toList_zip]
  have bo:RowsKept (xw [] ι g) W1 E W:=by
   intro b n o m;obtain⟨o',z⟩:=aj b n o m;exact j4 b n o' z
  have be:FrRV E W I a.tmps:=by
   have:=xfs j1;rwa [cf k]at this
  have bq:=qe9 ps.toList ds I bd;have bk:((ps.toList.zip vs).foldl (λt (x:Nat×Value)=>t.setIfInBounds x.1 x.2) a.tmps).size=N:=by rw[qnd];exact j1.size
  have ai:SR N (below (S k).nt) E W {S k with fr:=jo ps.toList ds I} {tmps:=(ps.toList.zip vs).foldl (λt (x:Nat×Value)=>t.setIfInBounds x.1 x.2) a.tmps,defers:= []}:=
   j1.plain bq bk (qxl ps.toList ds vs I a.tmps (by simpa using ca) (by simp;omega) (λp hp=>by rw[j1.size];exact bp p hp) be
    (λi v d hv C=>(au i v d hv C).mono_noPtr bo ((D.noPtrL_iff ds).1 b9 d (jAe C))))
  have bg:=ae k ds hk l E W _ ai rfl;simp only[u];rw[ao];refine wpIn_mono bg ?_;intro e a2 W2 hq;cases e with
  |normal=>
   obtain⟨ga,st2,Y,O,q3⟩:=hq;have bv:l<W.heap.size:=(jA5.1 j5).1;obtain⟨e1,e2⟩:=O.out l bv j7;have bb:W2.heap[l]? =some (.loop (u .ready none)):=by rw[e1];exact j5
   refine⟨_,run_beginRound bb rfl,?_⟩;have U: ∀b,ga b≠ .out->(W2.putObj l (.loop {u .ready none with state:= .busy})).heap[b]? =W2.heap[b]? :=λb m=>World.putObj_heap_other (λh=>m (h▸e2));refine wpIn_mono (q3 _ (Y.still U (qcs _ _ _))) ?_;rintro e a3 W3 ⟨rfl,gb,af,r1,r2,r3⟩;have an:(W2.putObj l (.loop {u .ready none with state:= .busy})).heap[l]? =some (.loop {u .ready none with state:= .busy}):=World.putObj_heap_same (jA5.1 bb).1;obtain⟨f1,f2⟩:=r2.out l (jA5.1 an).1 e2;have ba:W3.heap[l]? =some (.loop {u .ready none with state:= .busy}):=by rw[f1];exact an
   refine⟨_,_,run_endRound none ba,rfl,?_,λb id m=> ?_⟩
   ·
    have cn:G g0 w0 ga W2:=j2.trans O;have a5:G g0 w0 ga (W2.putObj l (.loop {u .ready none with state:= .busy})):=cn.beyond rfl rfl rfl (qcs _ _ _) (λb r m _ _=>World.putObj_heap_other (by simp only[l];omega));have cm:G g0 w0 gb W3:=a5.trans r2;have az:FrRV gb W3 I a.tmps:=(((be.mono j1.dom O).still U).mono (Y.still U (qcs _ _ _)).dom r2);have bm:SR N (below af.nt) gb W3 {af with fr:=I} a:=r1.plain bd j1.size az;obtain⟨gz,z1,z2,z3,z4,_⟩:=r3.rows bm cm h0;have a8:gz l= .out:=z3 l f2;have ah: ∀b,gz b≠ .out->(W3.putObj l (.loop (u .ready none))).heap[b]? =W3.heap[b]? :=λb m=>World.putObj_heap_other (λh=>m (h▸a8));have ch:Marks g0 w0 ga W2 a.defers:=j3.step O;have a4:Marks g0 w0 ga (W2.putObj l (.loop {u .ready none with state:= .busy})) a.defers:=ch.world (λd C b m=>World.putObj_heap_other (by have:=(ag d C b m).1;simp only[l];omega));have cg:Marks g0 w0 gz W3 a.defers:=(a4.step r2).turn z3;obtain⟨d1,d2⟩:=O.out w.heap.size (jA5.1 j6).1 j8;have bf:(W2.putObj l (.loop {u .ready none with state:= .busy})).heap[w.heap.size]? =some (.deferred (some [])):=by rw[World.putObj_heap_other (by simp only[l];omega),d1];exact j6
    obtain⟨d3,d4⟩:=r2.out w.heap.size (jA5.1 bf).1 d2;refine⟨gz,z1.still ah (qcs _ _ _),z2.beyond rfl rfl rfl (qcs _ _ _) (λb r m _ _=>World.putObj_heap_other (by simp only[l];omega)),cg.world (λd C b m=>World.putObj_heap_other (by have:=(ag d C b m).1;simp only[l];omega)),
     ((((j4.trans (O.rowsKept j1.dom)).trans (RowsKept.still U)).trans (r2.rowsKept (Y.still U (qcs _ _ _)).dom)).trans z4).trans (RowsKept.still ah),World.putObj_heap_same (jA5.1 ba).1,?_,a8,z3 _ d4,λb id B m=> ?_⟩
    ·rw[World.putObj_heap_other (by simp only[l];omega),d3];exact bf
    ·have cb:=htk b id B m;have a0:=j9 b id B m;have X:b<W.heap.size:=by omega
     obtain⟨c1,c2⟩:=O.out b X a0;exact z3 b (r2.out b (jBw (jBw X O.size) (qcs _ _ _)) c2).2
   ·obtain⟨ar,B,z⟩:=A b id m;have cb:=htk b ar B z;have X:b<W.heap.size:=by omega
    obtain⟨c1,c2⟩:=O.out b X (j9 b ar B z);obtain⟨c3,c4⟩:=r2.out b (jBw (jBw X O.size) (qcs _ _ _)) c2;rw[World.putObj_heap_other (by simp only[l];omega),c3,World.putObj_heap_other (by simp only[l];omega),c1]
  | _=>exact hq.elim
 have ax:=bl (xw [] ι g) W1 vc l J aq (by simpa using l2) bw ak cd bn ck;refine⟨l,[{target:= .collected w.heap.size,args:= #[]}],W1,{target:= .fn (.func gf) vc.toArray,args:= #[.func (.yield l) #[] #[]]},W1,gf,#[.func (.yield l) #[] #[]]++vc.toArray,W1,run_enterLoop_outer _ _ _ _ _,?_,λ_ _=>trivial,?_,⟨λh=>Bool.noConfusion h,?_⟩⟩
 ·simp[resolve,b8,Deferred.ofValue];rfl
 ·cases hfn:P.funcs[gf]?with
  |none=>rw[hfn]at m;simp at m
  |some fx=>
   rw[hfn]at m;simp only[Option.any_some,jAf]at m;obtain⟨a0,cc⟩:=m;have al:fx.body.isNone=false:=by cases hbb:fx.body<;>simp[hbb]at a0⊢
   have bu:(fx.name== "runtime.NumGoroutine")=false:=by simpa using cc
   simp only[invoke,callFunc,Sem.run_bind,Sem.run_pure,Result.andThen_ok,run_program,hfn,al,bu,jAw,if_false]
 ·refine qor ?_;refine CallsIn.mono ax ?_;rintro e W' ⟨⟨v,rfl⟩,E,j1,j2,j3,j4,j5,j6,j7,j8,j9⟩;refine⟨none,_,run_endLoop j5 (by simp[u]),?_⟩;generalize ({u .ready none with state:= .exhausted}:Loop)=lx;show R .normal _ (W'.putObj l (.loop lx));have ay: ∀b,b<w.heap.size+1->(W'.putObj l (.loop lx)).heap[b]? =W'.heap[b]? :=λb m=>World.putObj_heap_other (by simp only[l];omega);have ad: ∀b,E b≠ .out->(W'.putObj l (.loop lx)).heap[b]? =W'.heap[b]? :=λb m=>World.putObj_heap_other (λh=>m (h▸j7));have Z:=j1.still ad (qcs _ _ _);refine hR E _ _ ⟨Z.dom,trivial,Z.size,Z.slots,Z.objs,Z.inj,Z.ids,Z.wf⟩ (j2.beyond rfl rfl rfl (qcs _ _ _) (λb r m _ _=>ay b (by omega))) ⟨λd C=> ?_,?_⟩
  ·rcases jAv.1 C with rfl|C
   ·exact⟨w.heap.size,rfl,av,j8,(ay _ (by omega)).trans j6⟩
   ·obtain⟨b,Y,O,q3,q4⟩:=j3.one d C;exact⟨b,Y,O,q3,(ay b (by have:=(ag d C b Y).1;omega)).trans q4⟩
  ·refine jB1.2 ⟨λd C h=> ?_,j3.two⟩;obtain⟨b,Y,_⟩:=j3.one d C;have:=(ag d C b Y).1;rw[Y]at h;simp at h;omega
theorem qxm {f:Operand} {f':Opd} {ps:Array Tmp} {ac bc:Code} {R:Exit->Act->World->Prop} {gf:FuncId} {ibx ib K:Nat} {X:List Int} {B:List (List D)} {S:Nat->St} {A:Fr} {QE:St->Prop}
  (hs:SR N T g w st a) (hG:G g0 w0 g w) (hM:Marks g0 w0 g w a.defers) (h0: ∀b id,g0 b= .obj id->id<k0)
  (hf:qr f=some f') (h1:f'.ok st.fr=true) (h2:f'.get st.fr= .d (.func (.func gf) [] [.ptr ibx 0])) (ao:xl8 P gf X B)
  (hK:k0<=K) (b8:ibx<K) (ca:ib<K) (ba: ∀k,(S k).os[ibx]? =some (.row [.d (.ptr ib 0)])) (ax: ∀k,∃rest,(S k).os[ib]? =some (.row (X.map (λx=> .d (.int .i64 x))++rest)))
  (a5:X≠ [])
  (bl: ∀vs∈B,vs.length=ps.size∧D.noPtrL vs=true) (bv: ∀p∈ps.toList,p<N) (a8:A.plain=true) (ci: ∀k,(S k).fr=A)
  (bk:Weak K st (S 0))
  (ab: ∀k vs,B[k]? =some vs-> ∀l z W1 a1,SR N (below (S k).nt) z W1 {S k with fr:=jo ps.toList vs A} a1->a1.defers= [] ->
   ac.wpIn (Fw (some l)) 0 P (Exit.then (λa2 W2=> ∃ga st2,SR N (below st2.nt) ga W2 st2 a2∧G z W1 ga W2∧
    ∀W2',SR N (below st2.nt) ga W2' st2 a2->bc.wpIn (Fw (some l)) 0 P (λe a3 W3=> ∃gb I,SR N (below I.nt) gb W3 I a3∧G ga W2' gb W3∧
     ((e= .normal∧Turn K {I with fr:=A} (S (k+1)))∨(e= .ret∧ ∃q,Turn K {I with fr:=A} q∧q.fr=A∧QE q))) a2 W2') (λ_ _ _=>False)) a1 W1)
  (hR: ∀g' w' a',SR N (below (S B.length).nt) g' w' (S B.length) a'->G g0 w0 g' w'->Marks g0 w0 g' w' a'.defers->R .normal a' w')
  (hE: ∀q g' w' a',QE q->SR N (below q.nt) g' w' q a'->G g0 w0 g' w'->Marks g0 w0 g' w' a'.defers->R .ret a' w'):
  (Code.rangeFunc f ps ac bc).wpIn (Fw none) 0 P R a w:=by
 have be: ∀b id,g0 b= .obj id->id<K:=λb id h=>jBw (h0 b id h) hK;have a4:=xh hs hf h1;rw[h2]at a4;have aj:=ws a4;generalize cd:a.eval f=fv at aj;cases aj with
 |func _ vf vc _ _ l1 l2 r1 r2=>
 have bm:vf= []:=jAy (by simpa using l1);subst bm;obtain⟨vb,rfl⟩: ∃vb,vc= [vb]:=by
  match vc,l2 with
  | [v],_=>exact⟨v,rfl⟩
 have bn:=r2 0 vb _ rfl rfl;cases bn with
 |ptr bx _ _ hbx=>
 obtain⟨u,bp⟩:=ao;have b7: ∀k,yq (S k).os ibx=true:=λk=>by unfold yq;rw[ba k]
 have hkb: ∀k,yq (S k).os ib=true:=λk=>by obtain⟨r,h⟩:=ax k;unfold yq;rw[h]
 obtain⟨gA,ad,bh,bg,kA4,kA5,bf⟩:=bk.srD hs hG be;have cb:gA bx= .obj ibx:=bf bx ibx (b7 0) hbx;obtain⟨bb,cc⟩: ∃bb,gA bb= .obj ib:=by
  obtain⟨rest,h⟩:=ax 0;obtain⟨bb,h,_⟩:=(ad.objs ib _ h (by simp)).block (by
   cases X with
   |nil=>exact(a5 rfl).elim
   |cons x l=>simp[AObj.cells])
  exact⟨bb,h⟩
 refine wpIn_rangeFunc λfn _=> ?_;let m:LoopState->Option Code->Loop:=λst Y=>{state:=st,pending:=Y,fn,tmps:=a.tmps,params:=ps,assign:=ac,body:=bc,defers:=w.heap.size}
 let W1:=(w.alloc (.deferred (some []))).alloc (.loop (m .ready none))
 let l:=w.heap.size+1
 have cm:W1.heap[l]? =some (.loop (m .ready none)):=by
  have:=World.alloc_heap_new (w.alloc (.deferred (some []))) (.loop (m .ready none));rwa [World.size_alloc]at this
 have cn:W1.heap[w.heap.size]? =some (.deferred (some [])):=by
  exact(qbl _ _ _ (by simp)).trans (World.alloc_heap_new w _)
 have hold: ∀b,b<w.heap.size->W1.heap[b]? =w.heap[b]? :=λb u=>by
  exact(qbl _ _ _ (by simp;omega)).trans (qbl _ _ _ u)
 have hsz1:W1.heap.size=w.heap.size+2:=by simp[W1]
 have af: ∀d∈a.defers,∀b,d.target= .collected b->b<w.heap.size:=by
  intro d C b u;obtain⟨b',M,q2,q3,q4⟩:=hM.one d C;rw[u]at M;cases M;exact(jA5.1 q4).1
 have al:w0.heap.size<=w.heap.size:=hG.size;let J0:St->Option Code->LoopState->World->Prop:=λst' Y ls W=> ∃z,SR N (below st'.nt) z W st' a∧G g0 w0 z W∧Marks g0 w0 z W a.defers∧W.heap[l]? =some (.loop (m ls Y))∧
  W.heap[w.heap.size]? =some (.deferred (some []))∧z l= .out∧z w.heap.size= .out∧z bx= .obj ibx∧z bb= .obj ib
 let J:Nat->World->Prop:=λk W=>J0 (S k) none .ready W
 let E:World->Prop:=λW=> ∃q,QE q∧J0 q (some .ret) .done W
 have co:J 0 W1:=by
  have an: ∀b,gA b≠ .out->W1.heap[b]? =w.heap[b]? :=λb u=>hold b (by
   rcases jB9 b w.heap.size with h|h
   ·exact h
   ·exact(u (ad.dom.1 b h)).elim)
  exact⟨gA,ad.still an (by omega),bh.beyond rfl rfl rfl (by omega) (λb r u _ _=>hold b (by omega)),(hM.turn bg).world (λd C b u=>hold b (af d C b u)),cm,cn,ad.dom.1 l (by simp[l]),ad.dom.1 _ (jAi _),cb,cc⟩
 have aq: ∀k W,J k W->(∃(c:Array Value) (e:TypeId),W.heap[bx]? =some (.cells c e (0,0))∧c[0]? =some (.pointer (some ⟨bb,0,none⟩)))∧ ∃(c:Array Value) (e:TypeId),W.heap[bb]? =some (.cells c e (0,0))∧ ∀(i:Nat) (x:Int),X[i]? =some x->c[i]? =some (Value.int .i64 x):=by
  rintro k W ⟨z,O,j2,j3,j4,j5,j6,j7,j8,j9⟩;constructor
  ·obtain⟨b,ai,c,e,M,q2,q3⟩:=(O.objs ibx _ (ba k) (by simp)).block (by simp[AObj.cells]);obtain rfl:=O.inj b bx ibx ai j8;obtain⟨v,v1,_,v3⟩:=q3 0 _ rfl;have v3:RV z W v (.ptr ib 0):=v3;cases v3 with
   |ptr b2 _ _ Z=>
    obtain rfl:=O.inj b2 bb ib Z j9;exact⟨c,e,M,v1⟩
  ·obtain⟨rest,hS⟩:=ax k;obtain⟨b,ai,c,e,M,q2,q3⟩:=(O.objs ib _ hS (by simp)).block (by
    cases X with
    |nil=>exact(a5 rfl).elim
    |cons x l=>simp[AObj.cells])
   obtain rfl:=O.inj b bb ib ai j9;refine⟨c,e,M,λi x hx=> ?_⟩;have b9:i<X.length:=(jAd.1 hx).1;obtain⟨v,v1,_,v3⟩:=q3 i (.d (.int .i64 x)) (by rw[jA3 (by simpa using b9),jAn,hx];rfl);have v3:RV z W v (.int .i64 x):=v3;rw[vn v3]at v1;exact v1
 have bt: ∀(k:Nat) (ds:List D) (vs:List Value) (W:World),B[k]? =some ds->J k W->vs.length=ds.length->(∀(i:Nat) (v:Value) (d:D),vs[i]? =some v->ds[i]? =some d->RV (λ_=> .out) W v d) ->
   q9e (Fw none) 0 P l vs.toArray W λe W'=>(e= .returned (.bool true)∧J (k+1) W')∨(e= .returned (.bool false)∧E W'):=by
  rintro k ds vs W hk ⟨z,O,j2,j3,j5,j6,j7,j8,j9,ak⟩ hvs aj;obtain⟨cf,ce⟩:=bl ds (jAe hk);have hy:=run_yield (P:=P) (args:=vs.toArray) j5 (by simp[m];omega);refine⟨fn,_,ac,bc,hy,roundIn_of_wpIn (F:=Fw none) trivial ?_⟩;have ah:(ps.zip vs.toArray).foldl (λt (x:Nat×Value)=>t.setIfInBounds x.1 x.2) a.tmps=(ps.toList.zip vs).foldl (λt (x:Nat×Value)=>t.setIfInBounds x.1 x.2) a.tmps:=by
   rw[<- jFt,Array.toList_zip]
  have bu:RowsKept (λ_=> .out) W z W:=by
   intro b n o u;cases u
  have a9:FrRV z W A a.tmps:=by
   have:=xfs O;rwa [ci k]at this
  have bw:=qe9 ps.toList ds A a8;have bo:((ps.toList.zip vs).foldl (λt (x:Nat×Value)=>t.setIfInBounds x.1 x.2) a.tmps).size=N:=by rw[qnd];exact O.size
  have br:SR N (below (S k).nt) z W {S k with fr:=jo ps.toList ds A} {tmps:=(ps.toList.zip vs).foldl (λt (x:Nat×Value)=>t.setIfInBounds x.1 x.2) a.tmps,defers:= []}:=
   O.plain bw bo (qxl ps.toList ds vs A a.tmps (by simpa using cf) (by simp;omega) (λp hp=>by rw[O.size];exact bv p hp) a9
    (λi v d hv C=>(aj i v d hv C).mono_noPtr bu ((D.noPtrL_iff ds).1 ce d (jAe C))))
  have bj:=ab k ds hk l z W _ br rfl;simp only[m];rw[ah];refine wpIn_mono bj ?_;intro e a2 W2 hq;cases e with
  |normal=>
   obtain⟨ga,st2,M,q2,q3⟩:=hq;have b0:l<W.heap.size:=(jA5.1 j5).1;obtain⟨e1,e2⟩:=q2.out l b0 j7;have a7:W2.heap[l]? =some (.loop (m .ready none)):=by rw[e1];exact j5
   refine⟨_,run_beginRound a7 rfl,?_⟩;have aa: ∀b,ga b≠ .out->(W2.putObj l (.loop {m .ready none with state:= .busy})).heap[b]? =W2.heap[b]? :=λb u=>World.putObj_heap_other (λh=>u (h▸e2));refine wpIn_mono (q3 _ (M.still aa (qcs _ _ _))) ?_;rintro e a3 W3 ⟨gb,I,r1,r2,r3⟩;have ag:(W2.putObj l (.loop {m .ready none with state:= .busy})).heap[l]? =some (.loop {m .ready none with state:= .busy}):=World.putObj_heap_same (jA5.1 a7).1;obtain⟨f1,f2⟩:=r2.out l (jA5.1 ag).1 e2;have av:W3.heap[l]? =some (.loop {m .ready none with state:= .busy}):=by rw[f1];exact ag
   have cq:G g0 w0 ga W2:=j2.trans q2;have az:G g0 w0 ga (W2.putObj l (.loop {m .ready none with state:= .busy})):=cq.beyond rfl rfl rfl (qcs _ _ _) (λb r u _ _=>World.putObj_heap_other (by simp only[l];omega));have cp:G g0 w0 gb W3:=az.trans r2;have aw:FrRV gb W3 A a.tmps:=(((a9.mono O.dom q2).still aa).mono (M.still aa (qcs _ _ _)).dom r2);have bq:SR N (below I.nt) gb W3 {I with fr:=A} a:=r1.plain a8 O.size aw;have ck:Marks g0 w0 ga W2 a.defers:=j3.step q2;have ay:Marks g0 w0 ga (W2.putObj l (.loop {m .ready none with state:= .busy})) a.defers:=ck.world (λd C b u=>World.putObj_heap_other (by have:=af d C b u;simp only[l];omega));obtain⟨d1,d2⟩:=q2.out w.heap.size (jA5.1 j6).1 j8;have bd:(W2.putObj l (.loop {m .ready none with state:= .busy})).heap[w.heap.size]? =some (.deferred (some [])):=by rw[World.putObj_heap_other (by simp only[l];omega),d1];exact j6
   obtain⟨d3,d4⟩:=r2.out w.heap.size (jA5.1 bd).1 d2;have a0:=(q2.obj bx ibx (O.dom.lt_obj j9) j9).1;have Z:=(q2.obj bb ib (O.dom.lt_obj ak) ak).1;have bi:=(r2.obj bx ibx (jBw (M.dom.lt_obj a0) (qcs _ _ _)) a0).1;have ch:=(r2.obj bb ib (jBw (M.dom.lt_obj Z) (qcs _ _ _)) Z).1;have next: ∀(q:St) (Y:Option Code) (ls:LoopState),Turn K {I with fr:=A} q->J0 q Y ls (W3.putObj l (.loop (m ls Y))):=by
    intro q Y ls ht;obtain⟨gz,z1,z2,z3,z4,z5⟩:=ht.rows bq cp be;have a6:gz l= .out:=z3 l f2;have am: ∀b,gz b≠ .out->(W3.putObj l (.loop (m ls Y))).heap[b]? =W3.heap[b]? :=λb u=>World.putObj_heap_other (λh=>u (h▸a6));have cj:Marks g0 w0 gz W3 a.defers:=(ay.step r2).turn z3;refine⟨gz,z1.still am (qcs _ _ _),z2.beyond rfl rfl rfl (qcs _ _ _) (λb r u _ _=>World.putObj_heap_other (by simp only[l];omega)),cj.world (λd C b u=>World.putObj_heap_other (by have:=af d C b u;simp only[l];omega)),
     World.putObj_heap_same (jA5.1 av).1,?_,a6,z3 _ d4,z5 bx ibx b8 bi,z5 bb ib ca ch⟩
    rw[World.putObj_heap_other (by simp only[l];omega),d3];exact bd
   rcases r3 with⟨rfl,ht⟩|⟨rfl,q,ht,hfE,hQ⟩
   ·exact⟨_,_,run_endRound none av,.inl ⟨rfl,next _ none .ready ht⟩⟩
   ·exact⟨_,_,run_endRound (some .ret) av,.inr ⟨rfl,q,hQ,next _ (some .ret) .done ht⟩⟩
  | _=>exact hq.elim
 have ar:=bp W1 bx bb l J E aq bt co;refine⟨l,[{target:= .collected w.heap.size,args:= #[]}],W1,{target:= .fn (.func gf) #[.pointer (some ⟨bx,0,none⟩)],args:= #[.func (.yield l) #[] #[]]},W1,gf,#[.func (.yield l) #[] #[]]++ #[.pointer (some ⟨bx,0,none⟩)],W1,run_enterLoop_outer _ _ _ _ _,?_,λ_ _=>trivial,?_,⟨λh=>Bool.noConfusion h,?_⟩⟩
 ·simp[resolve,cd,Deferred.ofValue];rfl
 ·cases hfn:P.funcs[gf]?with
  |none=>rw[hfn]at u;simp at u
  |some fx=>
   rw[hfn]at u;simp only[Option.any_some,jAf]at u;obtain⟨ai,Z⟩:=u;have ae:fx.body.isNone=false:=by cases hbb:fx.body<;>simp[hbb]at ai⊢
   have bz:(fx.name== "runtime.NumGoroutine")=false:=by simpa using Z
   simp only[invoke,callFunc,Sem.run_bind,Sem.run_pure,Result.andThen_ok,run_program,hfn,ae,bz,jAw,if_false]
 ·refine qor ?_;refine CallsIn.mono ar ?_;have out: ∀{st':St} {Y:Option Code} {ls:LoopState} {W':World},J0 st' Y ls W'->(m ls Y).state≠ .busy-> ∃w4,(Instr.endLoop l).run P W'= .ok Y w4∧
    ∃z,SR N (below st'.nt) z w4 st' {a with defers:= [{target:= .collected w.heap.size,args:= #[]}]++a.defers}∧G g0 w0 z w4∧Marks g0 w0 z w4 ([{target:= .collected w.heap.size,args:= #[]}]++a.defers):=by
   rintro st' Y ls W' ⟨z,O,j2,j3,j5,j6,j7,j8,j9,ak⟩ cg;refine⟨_,run_endLoop j5 cg,?_⟩;generalize ({m ls Y with state:= .exhausted}:Loop)=lx;have au: ∀b,b<w.heap.size+1->(W'.putObj l (.loop lx)).heap[b]? =W'.heap[b]? :=λb u=>World.putObj_heap_other (by simp only[l];omega);have an: ∀b,z b≠ .out->(W'.putObj l (.loop lx)).heap[b]? =W'.heap[b]? :=λb u=>World.putObj_heap_other (λh=>u (h▸j7));have U:=O.still an (qcs _ _ _);refine⟨z,⟨U.dom,trivial,U.size,U.slots,U.objs,U.inj,U.ids,U.wf⟩,j2.beyond rfl rfl rfl (qcs _ _ _) (λb r u _ _=>au b (by omega)),⟨λd C=> ?_,?_⟩⟩
   ·rcases jAv.1 C with rfl|C
    ·exact⟨w.heap.size,rfl,al,j8,(au _ (by omega)).trans j6⟩
    ·obtain⟨b,M,q2,q3,q4⟩:=j3.one d C;exact⟨b,M,q2,q3,(au b (by have:=af d C b M;omega)).trans q4⟩
   ·refine jB1.2 ⟨λd C h=> ?_,j3.two⟩;obtain⟨b,M,_⟩:=j3.one d C;have:=af d C b M;rw[M]at h;simp at h;omega
  rintro e W' ⟨⟨v,rfl⟩,hj|⟨q,hQ,hj⟩⟩
  ·obtain⟨w4,e1,z,e2,e3,e4⟩:=out hj (by simp[m]);exact⟨none,w4,e1,hR z w4 _ e2 e3 e4⟩
  ·obtain⟨w4,e1,z,e2,e3,e4⟩:=out hj (by simp[m]);exact⟨some .ret,w4,e1,wpIn_ret (hE q z w4 _ hQ e2 e3 e4)⟩
end
def qil (K:St->Prop) (Q:SExit->St->Prop):SExit->St->Prop
 | .normal,st=>K st
 | .exit id,st=>Q (.exit id) st
 | .ret,st=>Q .ret st
def qu1 (id:Nat) (Q:SExit->St->Prop):SExit->St->Prop
 | .normal,st=>Q .normal st
 | .exit id',st=>if id'=id then Q .normal st else Q (.exit id') st
 | .ret,st=>Q .ret st
def rndQ (K:Nat) (e:Fr) (nx:St) (Q:SExit->St->Prop):SExit->St->Prop
 | .normal,st=>Turn K {st with fr:=e} nx
 | .exit _,_=>False
 | .ret,st=> ∃d,Turn K {st with fr:=e} d∧d.fr=e∧Q .ret d
def xrs (c:Opd) (st:St) (t:Bool):Prop:=c.ok st.fr=true∧c.get st.fr= .d (.bool t)
def AWp (P:Program):Nat->SCode->(SExit->St->Prop) ->St->Prop
 | _,.skip,Q,st=>Q .normal st
 | _,.region ops objs pairs,Q,st=>xfl P ops objs pairs (Q .normal) st
 |k0,.seq a b,Q,st=>AWp P k0 a (qil (AWp P k0 b Q) Q) st
 |k0,.cond c a b,Q,st=> ∃t,xrs c st t∧(t=true->AWp P k0 a Q st)∧(t=false->AWp P k0 b Q st)
 |k0,.block id a,Q,st=>AWp P k0 a (qu1 id Q) st
 |k0,.loop a,Q,st=> ∃(α:Type) (S:α->St) (μ:α->Nat) (x0:α),Turn k0 st (S x0)∧
   ∀x,AWp P k0 a (qil (λst'=> ∃y,Turn k0 st' (S y)∧μ y<μ x) Q) (S x)
 | _,.exit id,Q,st=>Q (.exit id) st
 | _,.ret,Q,st=>Q .ret st
 |k0,.pause a,Q,st=> ∃st',Turn k0 st st'∧AWp P k0 a Q st'
 |k0,.rangeFunc f ps a b,Q,st=>(∃(m:FuncId) (i:List D) (ι:List Nat) (fo:List AObj) (e:List (List D)) (S:Nat->St) (h:Fr),
   (f.ok st.fr=true∧f.get st.fr= .d (.func (.func m) [] (i.map (D.ren ι)))∧ASeq P m i fo e∧(∀d∈i,d.inK fo.length=true)∧ι.Nodup∧ι.length=fo.length∧qef ι st.os ι fo∧fo.all (AObj.inK fo.length)=true∧
    (∀id∈ι,k0<=id)∧(∀vs∈e,vs.length=ps.length∧D.noPtrL vs=true)∧h.plain=true∧(∀k,(S k).fr=h)∧(∀k id,id∈ι->yq (S k).os id=false)∧Weak k0 st (S 0))∧
   (∀k vs,e[k]? =some vs->AWp P (S k).os.length a (qil (λst2=>AWp P st2.os.length b (qil (λo=>Turn k0 {o with fr:=h} (S (k+1))) (λ_ _=>False)) st2) (λ_ _=>False)) {S k with fr:=jo ps vs h})∧
   Q .normal (S e.length))∨
  ∃(m:FuncId) (ibx ib K:Nat) (l:List Int) (e:List (List D)) (S:Nat->St) (h:Fr),
   (f.ok st.fr=true∧f.get st.fr= .d (.func (.func m) [] [.ptr ibx 0])∧xl8 P m l e∧k0<=K∧ibx<K∧ib<K∧(∀k,(S k).os[ibx]? =some (.row [.d (.ptr ib 0)]))∧
    (∀k,∃rest,(S k).os[ib]? =some (.row (l.map (λx=> .d (.int .i64 x))++rest)))∧l≠ []∧(∀vs∈e,vs.length=ps.length∧D.noPtrL vs=true)∧h.plain=true∧(∀k,(S k).fr=h)∧Weak K st (S 0))∧
   (∀k vs,e[k]? =some vs->AWp P (S k).os.length a (qil (λst2=>AWp P st2.os.length b (rndQ K h (S (k+1)) Q) st2) (λ_ _=>False)) {S k with fr:=jo ps vs h})∧
   Q .normal (S e.length)
def SExit.real:SExit->Exit
 | .normal=> .normal
 | .exit id=> .exit id
 | .ret=> .ret
theorem ARun.mono {P:Program}: ∀{ops:List SOper} {k:Nat} {tids:List (List Nat)} {K K':List (List Nat) ->St->Prop} {st:St},(∀t s,K t s->K' t s) ->ARun P ops k tids K st->ARun P ops k tids K' st
 | [],k,tids,K,K',st,h,hr=>h _ _ hr
 |o::ops,k,tids,K,K',st,h,hr=>by
  simp only[ARun]at hr⊢;cases hg:gv st.fr o.guard with
  |none=>rw[hg]at hr;exact hr.elim
  |some g=>
   rw[hg]at hr;simp only at hr⊢;cases hop:o.op with
   |call f args=>
    rw[hop]at hr;obtain⟨n,as,fa,r,fo,fo',ι,qb,l,i,d,m⟩:=hr;exact⟨n,as,fa,r,fo,fo',ι,qb,l,i,d,m.mono h⟩
   |eqnilS neg x=>
    rw[hop]at hr;obtain⟨l,i,es,rows,d,m⟩:=hr;exact⟨l,i,es,rows,d,λb hb=>(m b hb).mono h⟩
   |nextM x=>
    rw[hop]at hr;obtain⟨l,i,p,d,m⟩:=hr;refine⟨l,i,p,d,?_⟩;rcases m with⟨since,seen,last,q,u⟩|⟨mid,since,seen,last,es,clock,q,u,r7⟩
    ·exact .inl ⟨since,seen,last,q,u.mono h⟩
    ·exact .inr ⟨mid,since,seen,last,es,clock,q,λhl=>(u hl).mono h,λe he=>(r7 e he).mono h⟩
   |appendR back es bytes s x=>
    rw[hop]at hr;obtain⟨l,i⟩:=hr;refine⟨l,?_⟩;rcases i with⟨d,m⟩|⟨o1,o2,id,n,r,k1,k2,k3,k4,k5⟩
    ·exact .inl ⟨d,m.mono h⟩
    ·exact .inr ⟨o1,o2,id,n,r,k1,k2,k3,k4.mono h,k5.mono h⟩
   |callT f args=>
    rw[hop]at hr;obtain⟨l,n,as,fa,r,fo,fo',ι,H,R,i,d⟩:=hr;exact⟨l,n,as,fa,r,fo,fo',ι,H,R,i,d.mono h⟩
   |entryM x=>
    rw[hop]at hr;obtain⟨l,i,p,mid,since,seen,clock,es,e,d,m,q⟩:=hr;exact⟨l,i,p,mid,since,seen,clock,es,e,d,m,q.mono h⟩
   | _=>
    rw[hop]at hr;exact⟨hr.1,hr.2.mono h⟩
theorem qgl {K K':St->Prop} {Q Q':SExit->St->Prop} (hK: ∀s,K s->K' s) (d: ∀e s,Q e s->Q' e s): ∀e s,qil K Q e s->qil K' Q' e s
 | .normal,s,h=>hK s h
 | .exit _,s,h=>d _ s h
 | .ret,s,h=>d _ s h
theorem AWp.mono {P:Program}: ∀{k0:Nat} (c:SCode) {Q Q':SExit->St->Prop} {st:St},(∀e s,Q e s->Q' e s) ->AWp P k0 c Q st->AWp P k0 c Q' st
 | _,.skip,Q,Q',st,h,hr=>h _ _ hr
 | _,.region ops objs pairs,Q,Q',st,h,hr=>ARun.mono (λ_ _ C=>⟨C.1,h _ _ C.2⟩) hr
 | _,.seq a b,Q,Q',st,h,hr=>AWp.mono a (qgl (λs hs=>AWp.mono b h hs) h) hr
 | _,.cond c a b,Q,Q',st,h,hr=>by
  obtain⟨t,l,i,p⟩:=hr;exact⟨t,l,λA=>AWp.mono a h (i A),λA=>AWp.mono b h (p A)⟩
 | _,.block id a,Q,Q',st,h,hr=>AWp.mono a (λe s hs=>by
   cases e with
   |normal=>exact h _ _ hs
   |exit id'=>simp only[qu1]at hs⊢;grind
   |ret=>exact h _ _ hs) hr
 | _,.loop a,Q,Q',st,h,hr=>by
  obtain⟨α,S,μ,x0,l,i⟩:=hr;exact⟨α,S,μ,x0,l,λx=>AWp.mono a (qgl (λ_ hs=>hs) h) (i x)⟩
 | _,.exit id,Q,Q',st,h,hr=>h _ _ hr
 | _,.ret,Q,Q',st,h,hr=>h _ _ hr
 | _,.pause a,Q,Q',st,h,hr=>by
  obtain⟨st',l,i⟩:=hr;exact⟨st',l,AWp.mono a h i⟩
 | _,.rangeFunc f ps a b,Q,Q',st,h,hr=>by
  rcases hr with⟨B,q,ι,fo,d,S,o,l,i,p⟩|⟨B,z,ib,K,v,d,S,o,l,i,p⟩
  ·exact .inl ⟨B,q,ι,fo,d,S,o,l,i,h _ _ p⟩
  ·refine .inr ⟨B,z,ib,K,v,d,S,o,l,λk vs hk=>AWp.mono a (qgl (λs hs=>AWp.mono b (λe s' m=> ?_) hs) (λ_ _ h=>h)) (i k vs hk),h _ _ p⟩;cases e with
   |normal=>exact m
   |exit id=>exact m
   |ret=>
    obtain⟨u,q1,q2,q3⟩:=m;exact⟨u,q1,q2,h _ _ q3⟩
section
variable {P:Program} {mu:List Nat} {N k0:Nat} {g g0:Ghost} {w w0:World} {st:St} {a:Act}
theorem xfu {c:Operand} {c':Opd} {t:Bool} {T:Nat->Prop} (hs:SR N T g w st a) (hc:qr c=some c') (h:xrs c' st t):a.eval c= .bool t:=by
 have:=xh hs hc h.1;rw[h.2]at this;exact qas (ws this)
theorem qda {F:Fence} {u:Nat} {c:Code} {Q:Exit->Act->World->Prop} (J:Nat->Act->World->Prop) {n0:Nat} (h0:J n0 a w)
  (i: ∀n a w,J n a w->c.wpIn F u P (Exit.then (λa' w'=> ∃m,m<n∧J m a' w') Q) a w):(Code.loop c).wpIn F u P Q a w:=by
 intro b k cs q t o;have key: ∀n a w,J n a w-> ∃e a' w',Q e a' w'∧ArrivesIn (Machine.fenced P F) P (lone (b.atR a (.code c:: .inLoop c::k)) cs w) b k cs e a' w':=by
  intro n;induction n using Nat.strongRecOn with
  | _ n ih=>
   intro a w hI;obtain⟨e,a₁,w₁,h,d⟩:=i n a w hI b (.inLoop c::k) cs q t o;cases e with
   |normal=>
    obtain⟨m,p,hI₁⟩:=h;obtain⟨e₂,a₂,w₂,hq₂,harr₂⟩:=ih m p a₁ w₁ hI₁;exact⟨e₂,a₂,w₂,hq₂,.of_steps (StepsIn.trans d (.one (fenced_calm t o rfl) stepR_inLoop)) harr₂⟩
   |exit id=>exact⟨_,a₁,w₁,h,.pass (x:= .inLoop c) rfl (λ_ _=> .inl (by simp)) d⟩
   |goto l=>exact⟨_,a₁,w₁,h,.pass (x:= .inLoop c) rfl (λ_ _=> .inl (by simp)) d⟩
   |ret=>exact⟨_,a₁,w₁,h,.pass (x:= .inLoop c) rfl (λ_ _=> .inl (by simp)) d⟩
   |panic ch=>exact⟨_,a₁,w₁,h,.pass (x:= .inLoop c) rfl (λ_ _=> .inl (by simp)) d⟩
   |outgrown=>exact⟨_,a₁,w₁,h,.pass (x:= .inLoop c) rfl (λ_ _=> .inl (by simp)) d⟩
 obtain⟨e,a',w',h,d⟩:=key n0 a w h0;exact⟨e,a',w',h,.of_steps (.one (fenced_calm t o rfl) stepR_loop) d⟩
def SCode.core:SCode->SCode
 | .pause a=>a.core
 |c=>c
theorem qu2: ∀c:SCode,c.core.erase=c.erase
 | .pause a=>qu2 a
 | .skip=>rfl
 | .region .. =>rfl
 | .seq .. =>rfl
 | .cond .. =>rfl
 | .block .. =>rfl
 | .loop .. =>rfl
 | .exit .. =>rfl
 | .ret=>rfl
 | .rangeFunc .. =>rfl
theorem q9f: ∀(c a:SCode),c.core≠ .pause a
 | .pause b,a=>q9f b a
 | .skip,_=>by simp[SCode.core]
 | .region ..,_=>by simp[SCode.core]
 | .seq ..,_=>by simp[SCode.core]
 | .cond ..,_=>by simp[SCode.core]
 | .block ..,_=>by simp[SCode.core]
 | .loop ..,_=>by simp[SCode.core]
 | .exit ..,_=>by simp[SCode.core]
 | .ret,_=>by simp[SCode.core]
 | .rangeFunc ..,_=>by simp[SCode.core]
theorem AWp.core {P:Program} {k0:Nat} {Q:SExit->St->Prop}: ∀{c:SCode} {st:St},AWp P k0 c Q st-> ∃st',Turn k0 st st'∧AWp P k0 c.core Q st'
 | .pause a,st,h=>by
  obtain⟨st1,h1,h2⟩:=h;obtain⟨st2,h3,h4⟩:=AWp.core (c:=a) h2;exact⟨st2,h1.trans h3,h4⟩
 | .skip,st,h=>⟨st,.refl st,h⟩
 | .region ..,st,h=>⟨st,.refl st,h⟩
 | .seq ..,st,h=>⟨st,.refl st,h⟩
 | .cond ..,st,h=>⟨st,.refl st,h⟩
 | .block ..,st,h=>⟨st,.refl st,h⟩
 | .loop ..,st,h=>⟨st,.refl st,h⟩
 | .exit ..,st,h=>⟨st,.refl st,h⟩
 | .ret,st,h=>⟨st,.refl st,h⟩
 | .rangeFunc ..,st,h=>⟨st,.refl st,h⟩
def MarksR:Option Nat->Ghost->World->Ghost->World->List Deferred->Prop
 |none,g0,w0,g,w,ds=>Marks g0 w0 g w ds
 |some _,_,_,_,_,ds=>ds= []
theorem MarksR.step {ro:Option Nat} {g g' g0:Ghost} {w w' w0:World} {d:List Deferred} (h:MarksR ro g0 w0 g w d) (hG:G g w g' w'):MarksR ro g0 w0 g' w' d:=by
 cases ro with
 |none=>exact Marks.step h hG
 |some l=>exact h
theorem MarksR.turn {ro:Option Nat} {g g' g0:Ghost} {w w0:World} {d:List Deferred} (h:MarksR ro g0 w0 g w d) (ho: ∀b,g b= .out->g' b= .out):MarksR ro g0 w0 g' w d:=by
 cases ro with
 |none=>exact Marks.turn h ho
 |some l=>exact h
theorem xb2 {news:List (FuncId×Nat)} (hm:P.follows .mixedOrders=true): ∀(c:Code) (ro:Option Nat) (k0:Nat) (g0:Ghost) (w0:World) (sc:SCode) (Q:SExit->St->Prop) (R:Exit->Act->World->Prop) (st:St) (g:Ghost) (w:World) (a:Act),
  (ro=none∨yc c=true) ->(∀b id,g0 b= .obj id->id<k0) ->zy P mu N news c=some sc.erase->AWp P k0 sc Q st->SR N (below st.nt) g w st a->G g0 w0 g w->MarksR ro g0 w0 g w a.defers->
  (∀e st' g' w' a',Q e st'->SR N (below st'.nt) g' w' st' a'->G g0 w0 g' w'->MarksR ro g0 w0 g' w' a'.defers->R e.real a' w') ->c.wpIn (Fw ro) 0 P R a w:=by
 intro c;have pre: ∀{ro:Option Nat} {k0:Nat} {g0:Ghost} {w0:World},(∀b id,g0 b= .obj id->id<k0) -> ∀{sc:SCode} {Q:SExit->St->Prop} {st:St} {g:Ghost} {w:World} {a:Act},AWp P k0 sc Q st->SR N (below st.nt) g w st a->G g0 w0 g w->MarksR ro g0 w0 g w a.defers->
   ∃p st' g',p.erase=sc.erase∧(∀x,p≠ .pause x)∧AWp P k0 p Q st'∧SR N (below st'.nt) g' w st' a∧G g0 w0 g' w∧MarksR ro g0 w0 g' w a.defers:=by
  intro ro k0 g0 w0 E sc Q st g w a h hs v u;obtain⟨st',h1,h2⟩:=h.core;obtain⟨g',h3,h4,h5⟩:=h1.sr hs v E;exact⟨sc.core,st',g',qu2 sc,q9f sc,h2,h3,h4,u.turn h5⟩
 induction c with
 |skip=>
  intro ro k0 g0 w0 sc Q R st g w a F E hc h hs v u I;simp only[zy,Option.some.injEq]at hc;obtain⟨p,st',g',q,B,h,hs,v,u⟩:=pre E h hs v u;rw[<- hc]at q;cases p<;>simp only[SCode.erase,reduceCtorEq]at q<;>first|exact wpIn_skip (I .normal st' g' w a h hs v u)|grind
 |region id ops draw=>
  intro ro k0 g0 w0 sc Q R st g w a F E hc h hs v u I;simp only[zy,Option.map_eq_some_iff]at hc;obtain⟨⟨sops,objs,pairs⟩,h1,hc⟩:=hc;obtain⟨p,st',g',q,B,h,hs,v,u⟩:=pre E h hs v u;rw[<- hc]at q;cases p with
  |region a1 a2 a3=>
   simp only[SCode.erase,SCode.region.injEq]at q;obtain⟨rfl,rfl,rfl⟩:=q;exact xfo hm h1 hs h (λst' g' w' a' a4 hK d m=>I .normal st' g' w' a' hK m (v.trans d) (by rw[a4];exact u.step d))
  |pause x=>grind
  | _=>grind[SCode.erase]
 |seq x y ix iy=>
  intro ro k0 g0 w0 sc Q R st g w a F E hc h hs v u I;simp only[zy]at hc;split at hc
  ·rename_i x' y' hx hy;simp only[Option.some.injEq]at hc;obtain⟨p,st,g,q,B,h,hs,v,u⟩:=pre E h hs v u;rw[<- hc]at q;cases p<;>simp only[SCode.erase,reduceCtorEq]at q<;>first|exact(B _ rfl).elim|skip
   rename_i X Y;simp only[SCode.seq.injEq]at q;obtain⟨rfl,rfl⟩:=q;have ab:(ro=none∨yc x=true)∧(ro=none∨yc y=true):=by
    rcases F with h|h
    ·grind
    ·simp only[yc,Bool.and_eq_true]at h;grind
   refine wpIn_seq (ix ro k0 g0 w0 X _ _ st g w a ab.1 E hx h hs v u (λe st' g' w' a' J m d A=> ?_));cases e with
   |normal=>exact iy ro k0 g0 w0 Y Q R st' g' w' a' ab.2 E hy J m d A I
   |exit id=>exact I (.exit id) st' g' w' a' J m d A
   |ret=>exact I .ret st' g' w' a' J m d A
  grind
 |cond c x y ix iy=>
  intro ro k0 g0 w0 sc Q R st g w a F E hc h hs v u I;simp only[zy]at hc;split at hc
  ·rename_i c' x' y' hcc hx hy;simp only[Option.some.injEq]at hc;obtain⟨p,st,g,q,B,h,hs,v,u⟩:=pre E h hs v u;rw[<- hc]at q;cases p<;>simp only[SCode.erase,reduceCtorEq]at q<;>first|exact(B _ rfl).elim|skip
   rename_i C X Y;simp only[SCode.cond.injEq]at q;obtain⟨rfl,rfl,rfl⟩:=q;obtain⟨t,h1,h2,h3⟩:=h;have ab:(ro=none∨yc x=true)∧(ro=none∨yc y=true):=by
    rcases F with h|h
    ·grind
    ·simp only[yc,Bool.and_eq_true]at h;grind
   refine wpIn_cond_split (xfu hs hcc h1) (λht=>ix ro k0 g0 w0 X Q R st g w a ab.1 E hx (h2 ht) hs v u I) (λht=>iy ro k0 g0 w0 Y Q R st g w a ab.2 E hy (h3 ht) hs v u I)
  grind
 |block id x ix=>
  intro ro k0 g0 w0 sc Q R st g w a F E hc h hs v u I;simp only[zy,Option.map_eq_some_iff]at hc;obtain⟨x',hx,hc⟩:=hc;obtain⟨p,st,g,q,B,h,hs,v,u⟩:=pre E h hs v u;rw[<- hc]at q;cases p<;>simp only[SCode.erase,reduceCtorEq]at q<;>first|exact(B _ rfl).elim|skip
  rename_i i X;simp only[SCode.block.injEq]at q;obtain⟨rfl,rfl⟩:=q;refine wpIn_block (ix ro k0 g0 w0 X _ _ st g w a F E hx h hs v u (λe st' g' w' a' J m d A=> ?_));cases e with
  |normal=>exact I .normal st' g' w' a' J m d A
  |exit id'=>
   simp only[qu1]at J;simp only[SExit.real,Exit.inBlock];split
   ·rename_i hi;rw[if_pos hi]at J;exact I .normal st' g' w' a' J m d A
   ·rename_i hi;rw[if_neg hi]at J;exact I (.exit id') st' g' w' a' J m d A
  |ret=>exact I .ret st' g' w' a' J m d A
 |loop x ix=>
  intro ro k0 g0 w0 sc Q R st g w a F E hc h hs v u I;simp only[zy,Option.map_eq_some_iff]at hc;obtain⟨x',hx,hc⟩:=hc;obtain⟨p,st,g,q,B,h,hs,v,u⟩:=pre E h hs v u;rw[<- hc]at q;cases p<;>simp only[SCode.erase,reduceCtorEq]at q<;>first|exact(B _ rfl).elim|skip
  rename_i X;simp only[SCode.loop.injEq]at q;subst q;obtain⟨α,S,μ,x0,h1,h2⟩:=h;obtain⟨g',m,d,az⟩:=h1.sr hs v E;refine qda (λn a w=> ∃y g,μ y=n∧SR N (below (S y).nt) g w (S y) a∧G g0 w0 g w∧MarksR ro g0 w0 g w a.defers) (n0:=μ x0) ⟨x0,g',rfl,m,d,u.turn az⟩ (λn a w=> ?_);rintro⟨y,gy,rfl,ax,a7,a5⟩;refine ix ro k0 g0 w0 X _ _ (S y) gy w a F E hx (h2 y) ax a7 a5 (λe st' g' w' a' J m d A=> ?_);cases e with
  |normal=>
   obtain⟨z,hz,a0⟩:=J;obtain⟨g'',hs'',hG'',ho''⟩:=hz.sr m d E;exact⟨μ z,a0,z,g'',rfl,hs'',hG'',A.turn ho''⟩
  |exit id=>exact I (.exit id) st' g' w' a' J m d A
  |ret=>exact I .ret st' g' w' a' J m d A
 |exit id=>
  intro ro k0 g0 w0 sc Q R st g w a F E hc h hs v u I;simp only[zy,Option.some.injEq]at hc;obtain⟨p,st,g,q,B,h,hs,v,u⟩:=pre E h hs v u;rw[<- hc]at q;cases p<;>simp only[SCode.erase,reduceCtorEq]at q<;>first|exact(B _ rfl).elim|skip
  simp only[SCode.exit.injEq]at q;subst q;exact wpIn_exit (I (.exit _) st g w a h hs v u)
 |ret=>
  intro ro k0 g0 w0 sc Q R st g w a F E hc h hs v u I;simp only[zy,Option.some.injEq]at hc;obtain⟨p,st,g,q,B,h,hs,v,u⟩:=pre E h hs v u;rw[<- hc]at q;cases p<;>simp only[SCode.erase,reduceCtorEq]at q<;>first|exact(B _ rfl).elim|skip
  exact wpIn_ret (I .ret st g w a h hs v u)
 |rangeFunc f ps x y ix iy=>
  intro ro k0 g0 w0 sc Q R st g w a F E hc h hs v u I;have ay:ro=none:=F.resolve_right (by simp[yc]);subst ay;simp only[zy]at hc;split at hc
  ·rename_i f' x' y' aw hx hy;split at hc
   ·rename_i aa;simp only[Bool.and_eq_true,List.all_eq_true,decide_eq_true_eq]at aa;obtain⟨⟨ad,ac⟩,av⟩:=aa;simp only[Option.some.injEq]at hc;obtain⟨p,st,g,q,B,h,hs,v,u⟩:=pre E h hs v u;rw[<- hc]at q;cases p<;>simp only[SCode.erase,reduceCtorEq]at q<;>first|grind|skip
    rename_i F' ps' X Y;simp only[SCode.rangeFunc.injEq]at q;obtain⟨rfl,rfl,rfl,rfl⟩:=q;have U: ∀{st:St} {g:Ghost} {w:World} {a:Act} {T:Nat->Prop},SR N T g w st a-> ∀b id,g b= .obj id->id<st.os.length:=λhs b id hb=>by
     obtain⟨o,ho,_⟩:=hs.ids b id hb;grind
    rcases h with h|⟨gf,ibx,ib,K,ins,ah,S,au,⟨h1,h2,h3,h4,h5,h6,h7,h8,h9,a9,ar,aq,ao⟩,an,am⟩;rotate_left
    ·refine qxm (QE:=λs=>Q .ret s) hs v u E aw h1 h2 h3 h4 h5 h6 h7 h8 h9 (λvs hv=>by grind) av ar aq ao ?_ (λg' w' a' m d A=>I .normal _ g' w' a' am m d A) (λstE g' w' a' J m d A=>I .ret _ g' w' a' J m d A);intro k vs hk l gk W1 a1 Z aj;refine ix (some l) (S k).os.length gk W1 X _ _ _ gk W1 a1 (.inr ad) (U (st:={S k with fr:=jo ps.toList vs au}) Z) hx (an k vs hk) Z (.refl gk W1) aj (λe st2 ga W2 a2 J ai al ak=> ?_);cases e with
     |normal=>
      refine⟨ga,st2,ai,al,λW2' M=> ?_⟩;refine iy (some l) st2.os.length ga W2' Y _ _ _ ga W2' a2 (.inr ac) (U M) hy J M (.refl ga W2') ak (λe ae gb W3 a3 O af ag a6=> ?_);cases e with
      |normal=>exact⟨gb,ae,af,ag,.inl ⟨rfl,O⟩⟩
      |exit id=>exact O.elim
      |ret=>exact⟨gb,ae,af,ag,.inr ⟨rfl,O⟩⟩
     |exit id=>exact J.elim
     |ret=>exact J.elim
    obtain⟨gf,caps,ι,fo,ah,S,au,⟨h1,h2,h3,h4,h5,h6,h7,h8,h9,a9,ar,aq,ao,a8⟩,an,am⟩:=h;refine q1m hs v u E aw h1 h2 h3 h4 h5 h6 h7 h8 h9 (λvs hv=>by grind) av ar aq ao a8 ?_ (λg' w' a' m d A=>I .normal _ g' w' a' am m d A);intro k vs hk l gk W1 a1 Z aj;refine ix (some l) (S k).os.length gk W1 X _ _ _ gk W1 a1 (.inr ad) (U (st:={S k with fr:=jo ps.toList vs au}) Z) hx (an k vs hk) Z (.refl gk W1) aj (λe st2 ga W2 a2 J ai al ak=> ?_);cases e with
    |normal=>
     refine⟨ga,st2,ai,al,λW2' M=> ?_⟩;refine iy (some l) st2.os.length ga W2' Y _ _ _ ga W2' a2 (.inr ac) (U M) hy J M (.refl ga W2') ak (λe ae gb W3 a3 O af ag a6=> ?_);cases e with
     |normal=>exact⟨rfl,gb,ae,af,ag,O⟩
     |exit id=>exact O.elim
     |ret=>exact O.elim
    |exit id=>exact J.elim
    |ret=>exact J.elim
   grind
  grind
 | _=>
  grind[zy]
theorem q1n {ro:Option Nat} {news:List (FuncId×Nat)} (hm:P.follows .mixedOrders=true) (h0: ∀b id,g0 b= .obj id->id<k0) (d:ro=none) (c:Code) (sc:SCode) (Q:SExit->St->Prop) (R:Exit->Act->World->Prop) (st:St) (g:Ghost) (w:World) (a:Act)
  (h1:zy P mu N news c=some sc.erase) (h2:AWp P k0 sc Q st) (h3:SR N (below st.nt) g w st a) (h4:G g0 w0 g w) (h5:Marks g0 w0 g w a.defers)
  (h6: ∀e st' g' w' a',Q e st'->SR N (below st'.nt) g' w' st' a'->G g0 w0 g' w'->Marks g0 w0 g' w' a'.defers->R e.real a' w'):c.wpIn (Fw ro) 0 P R a w:=by
 subst d;exact xb2 hm c none k0 g0 w0 sc Q R st g w a (.inl rfl) h0 h1 h2 h3 h4 h5 h6
end
end Go.Abs
