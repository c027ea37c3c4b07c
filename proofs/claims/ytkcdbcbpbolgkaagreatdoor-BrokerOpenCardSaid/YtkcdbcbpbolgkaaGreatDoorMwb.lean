/- Texts Aa, Ab, Ac. -/
import Derived.Test.YtkcdbcbpbolgkaaGreatDoorMwa
import Derived.Orders
import Derived.Tactics
import Derived.Laws.AppendOwn
set_option linter.unusedSimpArgs false
set_option linter.unusedVariables false
set_option linter.defProp false
set_option maxRecDepth 100000
noncomputable section
namespace Go.Abs
inductive D where
 |int (k:IntKind) (n:Int)
 |bool (b:Bool)
 |str (s:List UInt8)
 |sl (es:Nat) (rows:List (List D))
 |agg (cells:List D)
 |ptr (id off:Nat)
 |ref (id off es len:Nat)
 |nilptr
 |func (fn:Fn) (first captured:List D)
 |nilfunc
 |iface (t:TypeId) (d:D)
 |niliface
 |map (id:Nat)
 |nilmap
 |nilsl
 |any
 deriving Inhabited
def D.isCell:D->Bool
 | .agg _=>false
 | _=>true
mutual
def D.noPtr:D->Bool
 | .sl _ rows=>D.noPtrR rows
 | .agg cs=>D.noPtrL cs
 | .ptr .. =>false
 | .ref .. =>false
 | .map _=>false
 | .func _ a b=>D.noPtrL a&&D.noPtrL b
 | .iface _ d=>D.noPtr d
 | _=>true
def D.noPtrL:List D->Bool
 | []=>true
 |d::l=>D.noPtr d&&D.noPtrL l
def D.noPtrR:List (List D) ->Bool
 | []=>true
 |r::l=>D.noPtrL r&&D.noPtrR l
end
theorem D.noPtrL_iff: ∀(l:List D),D.noPtrL l=true↔ ∀d∈l,d.noPtr=true
 | []=>by simp[D.noPtrL]
 |d::l=>by simp[D.noPtrL,D.noPtrL_iff l]
theorem D.noPtrR_iff: ∀(l:List (List D)),D.noPtrR l=true↔ ∀d∈l.flatten,d.noPtr=true
 | []=>by simp[D.noPtrR]
 |r::l=>by
  simp only[D.noPtrR,jAf,D.noPtrL_iff,D.noPtrR_iff l,List.flatten_cons,jAs];constructor
  ·rintro⟨h1,h2⟩ d (h|h)
   ·exact h1 d h
   ·exact h2 d h
  ·exact λh=>⟨λd e=>h d (.inl e),λd e=>h d (.inr e)⟩
inductive Role where
 |out
 |row (n:Nat) (o:Option Nat)
 |uni (t:Nat)
 |obj (id:Nat)
abbrev Ghost:=Nat->Role
def qdm (w:World) (b:Nat):Nat:=match w.heap[b]?with|some (.cells c _ _)=>c.size| _=>0
theorem jl {w w':World} {b:Nat} (h:w'.heap[b]? =w.heap[b]?):qdm w' b=qdm w b:=by unfold qdm;rw[h]
theorem vq {w:World} {b:Nat} {c:Array Value} {e:TypeId} {z:Nat×Nat} (h:w.heap[b]? =some (.cells c e z)):qdm w b=c.size:=by unfold qdm;rw[h]
inductive RV (g:Ghost) (w:World):Value->D->Prop
 |int (k:IntKind) (n:Int):RV g w (.int k n) (.int k n)
 |bool (b:Bool):RV g w (.bool b) (.bool b)
 |str (s:List UInt8):RV g w (.string ⟨s.toArray⟩) (.str s)
 |nilsl (a:Option Addr) (c es:Nat) (hn:a=none->c=0):RV g w (.slice a 0 c) (.sl es [])
 |sl (b off cap es n:Nat) (o:Option Nat) (rows:List (List D)) (f:Nat->Value)
   (hg:g b= .row n o) (hn:off+rows.flatten.length<=n) (hcap:rows.length<=cap)
   (hes: ∀r∈rows,r.length=es) (hcl: ∀d∈rows.flatten,d.isCell=true)
   (hcell: ∀(j:Nat) (d:D),rows.flatten[j]? =some d->w.cell? ⟨b,off+j,none⟩=some (f j))
   (hrv: ∀(j:Nat) (d:D),rows.flatten[j]? =some d->RV g w (f j) d):
   RV g w (.slice (some ⟨b,off,none⟩) rows.length cap) (.sl es rows)
 |agg (vs:List Value) (ds:List D) (hl:vs.length=ds.length) (hcl: ∀d∈ds,d.isCell=true)
   (h: ∀(j:Nat) (v:Value) (d:D),vs[j]? =some v->ds[j]? =some d->RV g w v d):RV g w (.agg vs.toArray) (.agg ds)
 |ptr (b off id:Nat) (hg:g b= .obj id):RV g w (.pointer (some ⟨b,off,none⟩)) (.ptr id off)
 |ref (b off id es len cap:Nat) (hg:g b= .obj id) (hcap:len<=cap) (hm:cap<=maxLen) (hsz:off+cap*es<=qdm w b):RV g w (.slice (some ⟨b,off,none⟩) len cap) (.ref id off es len)
 |refnil (a:Option Addr) (id off es:Nat):RV g w (.slice a 0 0) (.ref id off es 0)
 |nilptr:RV g w (.pointer none) .nilptr
 |func (fn:Fn) (vf vc:List Value) (df dc:List D) (hf:vf.length=df.length) (hc:vc.length=dc.length)
   (h1: ∀(j:Nat) (v:Value) (d:D),vf[j]? =some v->df[j]? =some d->RV g w v d)
   (h2: ∀(j:Nat) (v:Value) (d:D),vc[j]? =some v->dc[j]? =some d->RV g w v d):
   RV g w (.func fn vf.toArray vc.toArray) (.func fn df dc)
 |nilfunc:RV g w .nilFunc .nilfunc
 |iface (t:TypeId) (v:Value) (d:D) (h:RV g w v d):RV g w (.iface t v) (.iface t d)
 |niliface:RV g w .nilIface .niliface
 |map (b id:Nat) (hg:g b= .obj id):RV g w (.map (some b)) (.map id)
 |nilmap:RV g w (.map none) .nilmap
 |nils:RV g w (.slice none 0 0) .nilsl
 |any (v:Value) (hv:v.oneCell'=true):RV g w v .any
def RowsKept (g:Ghost) (w:World) (g':Ghost) (w':World):Prop:=
 ∀(b n:Nat) (o:Option Nat),g b= .row n o-> ∃(n':Nat) (o':Option Nat),g' b= .row n' o'∧n<=n'∧
  ∀(i:Nat) (u:Value),i<n->w.cell? ⟨b,i,none⟩=some u->w'.cell? ⟨b,i,none⟩=some u
theorem RV.mono {g g':Ghost} {w w':World} {v:Value} {d:D} (h:RV g w v d) (hr:RowsKept g w g' w')
  (e: ∀(b id:Nat),g b= .obj id->g' b= .obj id∧qdm w b<=qdm w' b):RV g' w' v d:=by
 induction h with
 |int k n=>exact .int k n
 |bool b=>exact .bool b
 |str s=>exact .str s
 |nilsl a c es hn=>exact .nilsl a c es hn
 |sl b off cap es n o rows f hg hn hcap hes hcl hcell _ ih=>
  obtain⟨n',o',i,hnn,hc⟩:=hr b n o hg;refine .sl b off cap es n' o' rows f i (by omega) hcap hes hcl (λj d l=>hc _ _ ?_ (hcell j d l)) ih;have:=(jAd.1 l).1;omega
 |agg vs ds hl hcl _ ih=>exact .agg vs ds hl hcl ih
 |ptr b off id hg=>exact .ptr b off id (e _ _ hg).1
 |ref b off id es len cap hg hcap hm hsz=>exact .ref b off id es len cap (e _ _ hg).1 hcap hm (jBn hsz (e _ _ hg).2)
 |refnil a id off es=>exact .refnil a id off es
 |nilptr=>exact .nilptr
 |func fn vf vc df dc hf hc _ _ i1 i2=>exact .func fn vf vc df dc hf hc i1 i2
 |nilfunc=>exact .nilfunc
 |iface t v d _ ih=>exact .iface t v d ih
 |niliface=>exact .niliface
 |map b id hg=>exact .map b id (e _ _ hg).1
 |nilmap=>exact .nilmap
 |nils=>exact .nils
 |any v hv=>exact .any v hv
theorem RV.mono_noPtr {g g':Ghost} {w w':World} {v:Value} {d:D} (h:RV g w v d) (hr:RowsKept g w g' w') (hp:d.noPtr=true):RV g' w' v d:=by
 induction h with
 |int k n=>exact .int k n
 |bool b=>exact .bool b
 |str s=>exact .str s
 |nilsl a c es hn=>exact .nilsl a c es hn
 |sl b off cap es n o rows f hg hn hcap hes hcl hcell _ ih=>
  obtain⟨n',o',m,hnn,hc⟩:=hr b n o hg;rw[D.noPtr,D.noPtrR_iff]at hp;refine .sl b off cap es n' o' rows f m (by omega) hcap hes hcl (λj d l=>hc _ _ ?_ (hcell j d l)) (λj d l=>ih j d l (hp d (jAe l)));have:=(jAd.1 l).1;omega
 |agg vs ds hl hcl _ ih=>
  rw[D.noPtr,D.noPtrL_iff]at hp;exact .agg vs ds hl hcl (λj v d i e=>ih j v d i e (hp d (jAe e)))
 |ptr b off id hg=>simp[D.noPtr]at hp
 |ref b off id es len cap hg hcap hm hsz=>simp[D.noPtr]at hp
 |refnil a id off es=>exact .refnil a id off es
 |nilptr=>exact .nilptr
 |func fn vf vc df dc hf hc _ _ i1 i2=>
  rw[D.noPtr,jAf,D.noPtrL_iff,D.noPtrL_iff]at hp;exact .func fn vf vc df dc hf hc (λj v d i e=>i1 j v d i e (hp.1 d (jAe e))) (λj v d i e=>i2 j v d i e (hp.2 d (jAe e)))
 |nilfunc=>exact .nilfunc
 |iface t v d _ ih=>exact .iface t v d (ih (by simpa[D.noPtr]using hp))
 |niliface=>exact .niliface
 |map b id hg=>simp[D.noPtr]at hp
 |nilmap=>exact .nilmap
 |nils=>exact .nils
 |any v i=>exact .any v i
theorem RV.mono_noObj {g g':Ghost} {w w':World} {v:Value} {d:D} (h:RV g w v d) (hr:RowsKept g w g' w') (hp: ∀(b id:Nat),g b≠ .obj id):RV g' w' v d:=
 h.mono hr λb id hb=>(hp b id hb).elim
theorem RV.oneCell {g:Ghost} {w:World} {v:Value} {d:D} (h:RV g w v d) (hd:d.isCell=true):v.oneCell'=true:=by
 cases h<;>first|rfl|assumption|(simp[D.isCell]at hd)
inductive ASlot where
 |d (x:D)
 |own (t es:Nat) (rows:List (List D))
 |uni (t es:Nat) (rows:List (List D))
 |full (es:Nat) (rows:List (List D))
 |rd (cells:List D)
 |tup (l:List ASlot)
 |bad
 deriving Inhabited
def q0l (g:Ghost) (w:World) (t es:Nat) (rows:List (List D)) (v:Value):Prop:=
 (∃a,v= .slice a rows.length rows.length)∨
 ∃(b cap:Nat) (d:Array Value) (e:TypeId),v= .slice (some ⟨b,0,none⟩) rows.length cap∧g b= .row (rows.length*es) (some t)∧
  w.heap[b]? =some (.cells d e (0,0))∧rows.length<=cap∧cap<=maxLen∧cap*es<=d.size
def UniOk (g:Ghost) (w:World) (t es:Nat) (rows:List (List D)) (v:Value):Prop:=
 (∃a,v= .slice a 0 0∧rows= [])∨
 ∃(b cap:Nat) (h:Array Value) (e:TypeId),v= .slice (some ⟨b,0,none⟩) rows.length cap∧g b= .uni t∧
  w.heap[b]? =some (.cells h e (0,0))∧rows.length<=cap∧cap<=maxLen∧cap*es<=h.size∧(∀r∈rows,r.length=es)∧
  ∀(j:Nat) (d:D),rows.flatten[j]? =some d->d.isCell=true∧ ∃u,h[j]? =some u∧RV g w u d
theorem UniOk.mono {g g':Ghost} {w w':World} {t es:Nat} {rows:List (List D)} {v:Value} (h:UniOk g w t es rows v) (i: ∀b,g b= .uni t->g' b= .uni t∧w'.heap[b]? =w.heap[b]?)
  (l: ∀(u:Value) (d:D),RV g w u d->RV g' w' u d):UniOk g' w' t es rows v:=by
 rcases h with h|⟨b,cap,m,e,h1,h2,h3,h4,h5,h6,h7,h8⟩
 ·exact .inl h
 ·obtain⟨k1,k2⟩:=i b h2;refine .inr ⟨b,cap,m,e,h1,k1,by rw[k2];exact h3,h4,h5,h6,h7,λj d hj=> ?_⟩;obtain⟨c1,u,c2,c3⟩:=h8 j d hj;exact⟨c1,u,c2,l u d c3⟩
def RC (g:Ghost) (w:World) (live:List Nat) (v:Value):ASlot->Prop
 | .d x=>RV g w v x
 | .own t es rows=>RV g w v (.sl es rows)∧(t∈live->q0l g w t es rows v)
 | .uni t es rows=>(∃a c,v= .slice a rows.length c)∧(t∈live->UniOk g w t es rows v)
 | .full es rows=>RV g w v (.sl es rows)∧ ∃a,v= .slice a rows.length rows.length
 | .rd cells=> ∃(b off n:Nat) (o:Option Nat) (f:Nat->Value),v= .pointer (some ⟨b,off,none⟩)∧g b= .row n o∧off+cells.length<=n∧
   ∀(j:Nat) (d:D),cells[j]? =some d->d.isCell=true∧w.cell? ⟨b,off+j,none⟩=some (f j)∧RV g w (f j) d
 | .tup _=>False
 | .bad=>True
def RS (g:Ghost) (w:World) (live:List Nat) (v:Value):ASlot->Prop
 | .tup l=> ∃vs:List Value,v= .tuple vs.toArray∧vs.length=l.length∧ ∀(i:Nat) (u:Value) (s:ASlot),vs[i]? =some u->l[i]? =some s->RC g w live u s
 |s=>RC g w live v s
inductive AObj where
 |none
 |row (cells:List ASlot)
 |map (es:List (Nat×D×D)) (clock:Nat)
 |iter (m:ASlot) (since:Nat) (seen:List Nat) (last:Nat)
 deriving Inhabited
structure EntIs (g:Ghost) (w:World) (e:MapEntry) (x:Nat×D×D):Prop where
 born:e.born=x.1
 key:RV g w e.key x.2.1
 val:RV g w e.val x.2.2
 kp:x.2.1.noPtr=true
 vp:x.2.2.noPtr=true
def MapIs (g:Ghost) (w:World) (b:Nat) (es:List (Nat×D×D)) (clock:Nat):Prop:=
 ∃l:List MapEntry,w.heap[b]? =some (.map l.toArray clock)∧l.length=es.length∧ ∀(i:Nat) (e:MapEntry) (x:Nat×D×D),l[i]? =some e->es[i]? =some x->EntIs g w e x
theorem MapIs.mono {g g':Ghost} {w w':World} {b:Nat} {es:List (Nat×D×D)} {clock:Nat} (h:MapIs g w b es clock) (o:RowsKept g w g' w') (hh:w'.heap[b]? =w.heap[b]?):MapIs g' w' b es clock:=by
 obtain⟨l,h1,h2,h3⟩:=h;refine⟨l,by rw[hh];exact h1,h2,λi e x he hx=> ?_⟩;obtain⟨k1,k2,k3,m,d⟩:=h3 i e x he hx;exact⟨k1,k2.mono_noPtr o m,k3.mono_noPtr o d,m,d⟩
def IterIs (w:World) (b:Nat) (R:Value->Prop) (since:Nat) (seen:List Nat) (last:Nat):Prop:=
 ∃o:Option Nat,w.heap[b]? =some (.mapIter o since seen.toArray last)∧R (.map o)
theorem IterIs.mono {w w':World} {b:Nat} {R R':Value->Prop} {since:Nat} {seen:List Nat} {last:Nat} (h:IterIs w b R since seen last) (hh:w'.heap[b]? =w.heap[b]?) (hR: ∀o:Option Nat,R (.map o) ->R' (.map o)):IterIs w' b R' since seen last:=by
 obtain⟨o,h1,h2⟩:=h;exact⟨o,by rw[hh];exact h1,hR _ h2⟩
def RO (g:Ghost) (w:World) (live:List Nat) (b:Nat):AObj->Prop
 | .none=>False
 | .row cells=> ∃(c:Array Value) (e:TypeId),w.heap[b]? =some (.cells c e (0,0))∧cells.length<=c.size∧
   ∀(i:Nat) (s:ASlot),cells[i]? =some s-> ∃v,c[i]? =some v∧v.oneCell'=true∧RC g w live v s
 | .map es clock=>MapIs g w b es clock
 | .iter m since seen last=>IterIs w b (λv=>RC g w live v m) since seen last
structure G (g:Ghost) (w:World) (g':Ghost) (w':World):Prop where
 os:w'.os=w.os
 tape:w'.tape=w.tape
 output:w'.output=w.output
 size:w.heap.size<=w'.heap.size
 out: ∀b,b<w.heap.size->g b= .out->w'.heap[b]? =w.heap[b]? ∧g' b= .out
 rowN: ∀b n,b<w.heap.size->g b= .row n none->w'.heap[b]? =w.heap[b]? ∧g' b= .row n none
 rowS: ∀b n t,b<w.heap.size->g b= .row n (some t) -> ∃n' o',g' b= .row n' o'∧n<=n'∧
  ∀(i:Nat) (u:Value),i<n->w.cell? ⟨b,i,none⟩=some u->w'.cell? ⟨b,i,none⟩=some u
 obj: ∀b id,b<w.heap.size->g b= .obj id->g' b= .obj id∧qdm w b<=qdm w' b
theorem G.refl (g:Ghost) (w:World):G g w g w:=
 ⟨rfl,rfl,rfl,jAi _,λ_ _ h=>⟨rfl,h⟩,λ_ _ _ h=>⟨rfl,h⟩,λ_ n t _ h=>⟨n,some t,h,jAi _,λ_ _ _ h=>h⟩,λ_ _ _ h=>⟨h,jAi _⟩⟩
theorem kj {w w':World} {b i:Nat} (h:w'.heap[b]? =w.heap[b]?):w'.cell? ⟨b,i,none⟩=w.cell? ⟨b,i,none⟩:=
 World.cell?_of_block (a:=⟨b,i,none⟩) h
theorem G.row {g g':Ghost} {w w':World} (h:G g w g' w') {b n:Nat} {o:Option Nat} (e:b<w.heap.size) (d:g b= .row n o):
  ∃n' o',g' b= .row n' o'∧n<=n'∧ ∀(i:Nat) (u:Value),i<n->w.cell? ⟨b,i,none⟩=some u->w'.cell? ⟨b,i,none⟩=some u:=by
 cases o with
 |none=>
  obtain⟨h1,h2⟩:=h.rowN b n e d;exact⟨n,none,h2,jAi _,λi u _ hu=>by rw[kj h1];exact hu⟩
 |some t=>exact h.rowS b n t e d
theorem G.trans {g g' g'':Ghost} {w w' w'':World} (h:G g w g' w') (k:G g' w' g'' w''):G g w g'' w'':=by
 refine⟨k.os.trans h.os,k.tape.trans h.tape,k.output.trans h.output,jBn h.size k.size,?_,?_,?_,?_⟩
 ·intro b d o;obtain⟨p,e⟩:=h.out b d o;obtain⟨m,l⟩:=k.out b (jBw d h.size) e;exact⟨m.trans p,l⟩
 ·intro b n d o;obtain⟨p,e⟩:=h.rowN b n d o;obtain⟨m,l⟩:=k.rowN b n (jBw d h.size) e;exact⟨m.trans p,l⟩
 ·intro b n t d o;obtain⟨n',o',p,e,h3⟩:=h.rowS b n t d o;obtain⟨n'',o'',m,l,k3⟩:=k.row (jBw d h.size) p;exact⟨n'',o'',m,jBn e l,λi u hi hu=>k3 i u (jBw hi e) (h3 i u hi hu)⟩
 ·intro b id d o;obtain⟨p,e⟩:=h.obj b id d o;obtain⟨m,l⟩:=k.obj b id (jBw d h.size) p;exact⟨m,jBn e l⟩
def xlm:Value->Bool
 | .nilIface=>true
 | .iface _ _=>true
 | _=>false
def xbc:List Nat:= [1,2]
def GlobOk (g:Ghost) (w:World):Prop:= ∀k∈xbc,∃(n:Nat) (v:Value),g k= .row (n+1) none∧w.cell? ⟨k,0,none⟩=some v∧xlm v=true
def Dom (g:Ghost) (w:World):Prop:=(∀b,w.heap.size<=b->g b= .out)∧GlobOk g w
theorem xst {w:World} {b i:Nat} {v:Value} (h:w.cell? ⟨b,i,none⟩=some v):b<w.heap.size:=by
 rcases jB9 b w.heap.size with d|d
 ·exact d
 ·simp[World.cell?,jEe d]at h
theorem GlobOk.ghost {g g':Ghost} {w:World} (h:GlobOk g w) (hg: ∀b n,g b= .row n none->g' b= .row n none):GlobOk g' w:=λk hk=>by
 obtain⟨n,v,h1,h2⟩:=h k hk;exact⟨n,v,hg k _ h1,h2⟩
theorem xe0 {v:Value} (h:xlm v=true):v.oneCell'=true:=by cases v<;>first|rfl|cases h
theorem GlobOk.same {g g':Ghost} {w w':World} (h:GlobOk g w) (hs: ∀k n,k<w.heap.size->g k= .row n none->w'.heap[k]? =w.heap[k]? ∧g' k= .row n none):GlobOk g' w':=λk hk=>by
 obtain⟨n,v,h1,d,h3⟩:=h k hk;obtain⟨k1,k2⟩:=hs k _ (xst d) h1;exact⟨n,v,k2,by rw[kj k1];exact d,h3⟩
theorem Dom.of {g g':Ghost} {w w':World} (h:Dom g w) (hG:G g w g' w') (hn: ∀b,w'.heap.size<=b->g' b= .out):Dom g' w':=⟨hn,h.2.same λk n hk hg=>hG.rowN k n hk hg⟩
theorem Dom.lt_row {g:Ghost} {w:World} (h:Dom g w) {b n:Nat} {o:Option Nat} (e:g b= .row n o):b<w.heap.size:=by
 rcases jB9 b w.heap.size with d|d
 ·exact d
 ·rw[h.1 b d]at e;cases e
theorem Dom.lt_uni {g:Ghost} {w:World} (h:Dom g w) {b t:Nat} (e:g b= .uni t):b<w.heap.size:=by
 rcases jB9 b w.heap.size with d|d
 ·exact d
 ·rw[h.1 b d]at e;cases e
theorem Dom.lt_obj {g:Ghost} {w:World} (h:Dom g w) {b id:Nat} (e:g b= .obj id):b<w.heap.size:=by
 rcases jB9 b w.heap.size with d|d
 ·exact d
 ·rw[h.1 b d]at e;cases e
theorem G.rowsKept {g g':Ghost} {w w':World} (h:G g w g' w') (hd:Dom g w):RowsKept g w g' w':=
 λ_ _ _ d=>h.row (hd.lt_row d) d
theorem G.rv {g g':Ghost} {w w':World} (h:G g w g' w') (e:Dom g w) {v:Value} {d:D} (hv:RV g w v d):RV g' w' v d:=
 hv.mono (h.rowsKept e) λb id i=>h.obj b id (e.lt_obj i) i
mutual
def D.eqv:D->D->Prop
 | .sl es rows,.sl es' rows'=>(es=es'∨rows= [])∧D.eqvR rows rows'
 | .agg cs,.agg cs'=>D.eqvL cs cs'
 | .func f a b,.func f' a' b'=>f=f'∧D.eqvL a a'∧D.eqvL b b'
 | .iface t d,.iface t' d'=>t=t'∧D.eqv d d'
 | .nilsl,.sl _ rows'=>rows'= []
 |a,.any=>a.isCell=true
 |a,b=>a=b
def D.eqvL:List D->List D->Prop
 | [],[]=>True
 |d::l,d'::l'=>D.eqv d d'∧D.eqvL l l'
 | _,_=>False
def D.eqvR:List (List D) ->List (List D) ->Prop
 | [],[]=>True
 |r::l,r'::l'=>D.eqvL r r'∧D.eqvR l l'
 | _,_=>False
end
mutual
theorem D.eqv_refl: ∀d:D,D.eqv d d
 | .int .. =>by simp[D.eqv]
 | .bool .. =>by simp[D.eqv]
 | .str .. =>by simp[D.eqv]
 | .sl _ rows=>by simp only[D.eqv,true_or,true_and];exact D.eqvR_refl rows
 | .agg cs=>by simp only[D.eqv];exact D.eqvL_refl cs
 | .ptr .. =>by simp[D.eqv]
 | .ref .. =>by simp[D.eqv]
 | .nilptr=>by simp[D.eqv]
 | .func _ a b=>by simp only[D.eqv,true_and];exact⟨D.eqvL_refl a,D.eqvL_refl b⟩
 | .nilfunc=>by simp[D.eqv]
 | .iface _ d=>by simp only[D.eqv,true_and];exact D.eqv_refl d
 | .niliface=>by simp[D.eqv]
 | .map _=>by simp[D.eqv]
 | .nilmap=>by simp[D.eqv]
 | .nilsl=>by simp[D.eqv]
 | .any=>by simp[D.eqv,D.isCell]
theorem D.eqvL_refl: ∀l:List D,D.eqvL l l
 | []=>by simp[D.eqvL]
 |d::l=>by simp only[D.eqvL];exact⟨D.eqv_refl d,D.eqvL_refl l⟩
theorem D.eqvR_refl: ∀l:List (List D),D.eqvR l l
 | []=>by simp[D.eqvR]
 |r::l=>by simp only[D.eqvR];exact⟨D.eqvL_refl r,D.eqvR_refl l⟩
end
theorem D.eqvL_length: ∀{l l':List D},D.eqvL l l'->l.length=l'.length
 | [],[],_=>rfl
 | [],_::_,h=>by simp[D.eqvL]at h
 | _::_,[],h=>by simp[D.eqvL]at h
 |d::l,d'::l',h=>by
  simp only[D.eqvL]at h;simp[D.eqvL_length h.2]
theorem D.eqvL_get: ∀{l l':List D},D.eqvL l l'-> ∀(j:Nat) (d':D),l'[j]? =some d'-> ∃d,l[j]? =some d∧D.eqv d d'
 | [],[],_,j,d',hj=>by simp at hj
 | [],_::_,h,_,_,_=>by simp[D.eqvL]at h
 | _::_,[],h,_,_,_=>by simp[D.eqvL]at h
 |d::l,e::l',h,j,d',hj=>by
  simp only[D.eqvL]at h;cases j with
  |zero=>simp at hj;subst hj;exact⟨d,rfl,h.1⟩
  |succ j=>
   obtain⟨x,h1,h2⟩:=D.eqvL_get h.2 j d' (by simpa using hj);exact⟨x,by simpa using h1,h2⟩
theorem D.eqvL_append: ∀{a a' b b':List D},D.eqvL a a'->D.eqvL b b'->D.eqvL (a++b) (a'++b')
 | [],[],_,_,_,h=>h
 | [],_::_,_,_,h,_=>by simp[D.eqvL]at h
 | _::_,[],_,_,h,_=>by simp[D.eqvL]at h
 |d::l,d'::l',_,_,h,k=>by
  simp only[D.eqvL]at h;simp only[List.cons_append,D.eqvL];exact⟨h.1,D.eqvL_append h.2 k⟩
theorem D.eqvR_flat: ∀{l l':List (List D)},D.eqvR l l'->D.eqvL l.flatten l'.flatten∧l.length=l'.length∧ ∀r'∈l',∃r∈l,r.length=r'.length
 | [],[],_=>by simp[D.eqvL]
 | [],_::_,h=>by simp[D.eqvR]at h
 | _::_,[],h=>by simp[D.eqvR]at h
 |r::l,r'::l',h=>by
  simp only[D.eqvR]at h;obtain⟨h1,h2,h3⟩:=D.eqvR_flat h.2;refine⟨?_,by simp[h2],λx d=> ?_⟩
  ·simp only[List.flatten_cons];exact D.eqvL_append h.1 h1
  ·rcases jAv.1 d with rfl|d
   ·exact⟨r,by simp,D.eqvL_length h.1⟩
   ·obtain⟨y,hy,hl⟩:=h3 x d;exact⟨y,by simp[hy],hl⟩
theorem D.eqv_isCell: ∀{d d':D},D.eqv d d'->d'.isCell=d.isCell:=by
 intro d d' h;cases d<;>cases d'<;>first|rfl|(simp[D.eqv,D.isCell]at h)
theorem xsu {d:D}:D.eqv d .any=(d.isCell=true):=by cases d<;>simp[D.eqv]
theorem RV.eqv {g:Ghost} {w:World} {v:Value} {d d':D} (h:RV g w v d) (e:D.eqv d d'):RV g w v d':=by
 induction h generalizing d' with
 |int k n=>cases d'<;>simp[D.eqv]at e<;>first|exact .any _ rfl|(obtain⟨rfl,rfl⟩:=e;exact .int _ _)
 |bool b=>cases d'<;>simp[D.eqv]at e<;>first|exact .any _ rfl|(subst e;exact .bool _)
 |str s=>cases d'<;>simp[D.eqv]at e<;>first|exact .any _ rfl|(subst e;exact .str _)
 |nilsl a c es hn=>
  cases d'<;>simp only[D.eqv,reduceCtorEq]at e
  case any=>first|exact .any _ rfl|(simp[D.isCell]at e;done)
  rename_i A m;cases m with
  |nil=>exact .nilsl a c A hn
  |cons r l=>simp[D.eqvR]at e
 |sl b off cap es n o rows f hg hn hcap hes hcl hcell hrv ih=>
  cases d'<;>simp only[D.eqv,reduceCtorEq]at e
  case any=>first|exact .any _ rfl|(simp[D.isCell]at e;done)
  rename_i A m;obtain⟨J,I⟩:=e;obtain⟨B,h4,h5⟩:=D.eqvR_flat I;have hlen:=D.eqvL_length B;rw[h4];refine .sl b off cap A n o m f hg (by omega) (by omega) (λr' C=> ?_) (λd' z=> ?_) (λj d' p=> ?_) (λj d' p=> ?_)
  ·obtain⟨r,G,E⟩:=h5 r' C;rcases J with rfl|rfl
   ·rw[<- E];exact hes r G
   ·simp at G
  ·obtain⟨j,p⟩:=jB0.1 z;obtain⟨d,q,i⟩:=D.eqvL_get B j d' p;rw[D.eqv_isCell i];exact hcl d (jAe q)
  ·obtain⟨d,q,i⟩:=D.eqvL_get B j d' p;exact hcell j d q
  ·obtain⟨d,q,i⟩:=D.eqvL_get B j d' p;exact ih j d q i
 |agg vs ds E hcl hrv ih=>
  cases d'<;>simp only[D.eqv,reduceCtorEq]at e
  case any=>first|exact .any _ rfl|(simp[D.isCell]at e;done)
  rename_i F;refine .agg vs F (by rw[E,D.eqvL_length e]) (λd' z=> ?_) (λj v d' u p=> ?_)
  ·obtain⟨j,p⟩:=jB0.1 z;obtain⟨d,q,i⟩:=D.eqvL_get e j d' p;rw[D.eqv_isCell i];exact hcl d (jAe q)
  ·obtain⟨d,q,i⟩:=D.eqvL_get e j d' p;exact ih j v d u q i
 |ptr b off id hg=>cases d'<;>simp[D.eqv]at e<;>first|exact .any _ rfl|(obtain⟨rfl,rfl⟩:=e;exact .ptr b _ _ hg)
 |refnil a id off es=>cases d'<;>(try simp[D.eqv]at e)<;>first|exact .any _ rfl|(obtain⟨rfl,rfl,rfl,rfl⟩:=e;exact .refnil a _ _ _)
 |ref b off id es len cap hg hcap hm hsz=>cases d'<;>simp[D.eqv]at e<;>first|exact .any _ rfl|(obtain⟨rfl,rfl,rfl,rfl⟩:=e;exact .ref b _ _ _ _ cap hg hcap hm hsz)
 |nilptr=>cases d'<;>simp[D.eqv]at e<;>first|exact .any _ rfl|(exact .nilptr)
 |func fn vf vc df dc hf hc J I i1 i2=>
  cases d'<;>simp only[D.eqv,reduceCtorEq]at e
  case any=>first|exact .any _ rfl|(simp[D.isCell]at e;done)
  obtain⟨rfl,O,M⟩:=e;refine .func fn vf vc _ _ (by rw[hf,D.eqvL_length O]) (by rw[hc,D.eqvL_length M]) (λj v d' u p=> ?_) (λj v d' u p=> ?_)
  ·obtain⟨d,q,i⟩:=D.eqvL_get O j d' p;exact i1 j v d u q i
  ·obtain⟨d,q,i⟩:=D.eqvL_get M j d' p;exact i2 j v d u q i
 |nilfunc=>cases d'<;>simp[D.eqv]at e<;>first|exact .any _ rfl|(exact .nilfunc)
 |iface t v d u ih=>
  cases d'<;>simp only[D.eqv,reduceCtorEq]at e
  case any=>first|exact .any _ rfl|(simp[D.isCell]at e;done)
  obtain⟨rfl,e⟩:=e;exact .iface _ _ _ (ih e)
 |niliface=>cases d'<;>simp[D.eqv]at e<;>first|exact .any _ rfl|(exact .niliface)
 |map b id hg=>cases d'<;>simp[D.eqv]at e<;>first|exact .any _ rfl|(subst e;exact .map b _ hg)
 |nilmap=>cases d'<;>simp[D.eqv]at e<;>first|exact .any _ rfl|(exact .nilmap)
 |any v u=>cases d'<;>simp[D.eqv]at e<;>exact .any v u
 |nils=>
  cases d'<;>simp only[D.eqv,reduceCtorEq]at e
  case any=>first|exact .any _ rfl|(simp[D.isCell]at e;done)
  ·subst e;exact .nilsl none 0 _ (λ_=>rfl)
  ·exact .nils
def qa2 (es:Nat) (rows:List (List D)) (e:Nat) (d:List (List D)):Prop:=(es=e∨rows= [])∧D.eqvR rows d
abbrev Fr:=List (Nat×Bool×ASlot)
def Fr.get:Fr->Nat->Option (Bool×ASlot)
 | [],_=>none
 |(j,s)::r,k=>if j=k then some s else Fr.get r k
structure St where
 fr:Fr
 os:List AObj
 live:List Nat
 nt:Nat
inductive Opd where
 |t (n:Nat)
 |k (s:ASlot)
def Opd.get (fr:Fr):Opd->ASlot
 | .t n=>match fr.get n with|some (_,s)=>s|none=> .bad
 | .k s=>s
def Opd.ok (fr:Fr):Opd->Bool
 | .t n=>match fr.get n with|some (v,_)=>v|none=>false
 | .k _=>true
inductive CK where
 |int|bool|str
 deriving DecidableEq
inductive NK where
 |ptr|func|iface|map
 deriving DecidableEq
def qh3:D->D->Bool
 | .int _ a,.int _ b=>a==b
 | .bool a,.bool b=>a==b
 | .str a,.str b=>a==b
 | _,_=>false
def eqOk:List CK->List D->List D->Bool
 | [],[],[]=>true
 | .int::ks,.int k _::l,.int k' _::r=>(k==k')&&eqOk ks l r
 | .bool::ks,.bool _::l,.bool _::r=>eqOk ks l r
 | .str::ks,.str _::l,.str _::r=>eqOk ks l r
 | _,_,_=>false
def zq:List D->List D->Bool
 | [],[]=>true
 |a::l,b::r=>qh3 a b&&zq l r
 | _,_=>false
inductive KD where
 |int (k:IntKind)|bool|str|agg (ks:List CK)
 deriving DecidableEq
def KD.fit:KD->D->D->Bool
 | .int k,.int a _,.int b _=>a==k&&b==k
 | .bool,.bool _,.bool _=>true
 | .str,.str _,.str _=>true
 | .agg ks,.agg as,.agg bs=>eqOk ks as bs
 | _,_,_=>false
abbrev Ents:=List (Nat×D×D)
inductive SOp where
 |mov (x:Opd)
 |pick (c a b:Opd)
 |box (back:Nat) (x:Opd)
 |alloc (back:Nat) (zero:List ASlot)
 |build (zero:List D) (parts:List (Nat×Nat×Opd))
 |buildSlice (u:Bool) (es len:Nat) (zero:List D) (parts:List (Nat×Nat×Opd))
 |load (n:Option Nat) (x:Opd)
 |store (n:Option Nat) (x v:Opd)
 |nilCheck (x:Opd)
 |bin (op:BinOp) (x y:Opd)
 |eqb (neg:Bool) (x y:Opd)
 |eqnil (neg:Bool) (k:NK) (x:Opd)
 |eqnilS (neg:Bool) (x:Opd)
 |eqAgg (neg:Bool) (ks:List CK) (x y:Opd)
 |not (x:Opd)
 |neg (x:Opd)
 |conv (k:IntKind) (x:Opd)
 |i2s (x:Opd)
 |b2s (x:Opd)
 |s2b (x:Opd)
 |mkFunc (fn:Fn) (first captured:List Opd)
 |makeSlice (u:Bool) (es bytes:Nat) (zero:List D) (l c:Opd)
 |makeSliceO (back es bytes:Nat) (zero:List D) (l c:Opd)
 |slice (es:Nat) (x:Opd) (lo hi mx:Option Opd)
 |sliceS (x:Opd) (lo hi:Option Opd)
 |sliceA (len es:Nat) (x:Opd) (lo hi mx:Option Opd)
 |faddr (off:Nat) (x:Opd)
 |field (n:Option Nat) (off:Nat) (x:Opd)
 |iaddr (es:Nat) (x i:Opd)
 |iaddrA (len es:Nat) (x i:Opd)
 |indexS (x i:Opd)
 |indexA (len es:Nat) (n:Option Nat) (x i:Opd)
 |extract (i:Nat) (x:Opd)
 |len (x:Opd)
 |lenS (x:Opd)
 |asStr (x:Opd)
 |append (u:Bool) (es bytes:Nat) (s x:Opd)
 |appendO (back es bytes:Nat) (s x:Opd)
 |appendR (back es bytes:Nat) (s x:Opd)
 |copy (es:Nat) (s x:Opd)
 |minmax (mx:Bool) (x y:Opd)
 |makeMap (back:Nat)
 |lookup (kd:KD) (z:ASlot) (c:Bool) (x k:Opd)
 |mapUpdate (kd:KD) (x k v:Opd)
 |delete (kd:KD) (x k:Opd)
 |lenM (x:Opd)
 |rangeM (back:Nat) (x:Opd)
 |nextM (x:Opd)
 |entryM (x:Opd)
 |s2ap (n:Nat) (x:Opd)
 |mkIface (t:TypeId) (x:Opd)
 |assertT (t:TypeId) (c:Bool) (x:Opd)
 |call (f:Opd) (args:List Opd)
 |callT (f:Opd) (args:List Opd)
structure SOper where
 dst:Option Nat
 op:SOp
 guard:Option (Nat×Bool):=none
inductive SCode where
 |skip
 |region (ops:List SOper) (objs:Nat) (pairs:List (Nat×Nat))
 |seq (a b:SCode)
 |cond (c:Opd) (a b:SCode)
 |block (id:Nat) (a:SCode)
 |loop (a:SCode)
 |exit (id:Nat)
 |ret
 |pause (a:SCode)
 |rangeFunc (f:Opd) (ps:List Nat) (a b:SCode)
inductive SExit where
 |normal
 |exit (id:Nat)
 |ret
structure Out where
 v:ASlot
 ob:Prop
 rd:Option Nat:=none
 wr:Option (Nat×AObj):=none
 cons:List Nat:= []
 iss:List Nat:= []
 mv:List (Nat×AObj):= []
 rds:List Nat:= []
def Out.wrs (out:Out):List (Nat×AObj):=out.wr.toList++out.mv
def jn:List AObj->List (Nat×AObj) ->List AObj
 |os,[]=>os
 |os,(id,o)::r=>jn (os.set id o) r
def Out.bad:Out:={v:= .bad,ob:=False}
def ASlot.asD:ASlot->Option D
 | .d x=>some x
 | .own _ es rows=>some (.sl es rows)
 | .full es rows=>some (.sl es rows)
 | _=>none
def ASlot.eqvD:ASlot->D->Prop
 | .d y,x=>D.eqv y x
 | .own _ es rows,x=>D.eqv (.sl es rows) x
 | .full es rows,x=>D.eqv (.sl es rows) x
 | _,_=>False
def ASlot.cellD:ASlot->D
 | .d x=>x
 | .own _ es rows=> .sl es rows
 | .full es rows=> .sl es rows
 | _=>default
def ASlot.isCellD:ASlot->Bool
 | .d x=>x.isCell
 | .own .. =>true
 | .full .. =>true
 | _=>false
def ASlot.isOne:ASlot->Bool
 | .d x=>x.isCell
 | .own .. =>true
 | .uni .. =>true
 | .full .. =>true
 | .rd _=>true
 | _=>false
def ASlot.toCells:ASlot->List ASlot
 | .d (.agg cs)=>cs.map .d
 |s=> [s]
def ASlot.dCells:ASlot->List D
 | .d (.agg cs)=>cs
 |s=> [s.cellD]
def ASlot.dCellsOk:ASlot->Bool
 | .d _=>true
 | .own .. =>true
 | .full .. =>true
 | _=>false
def AObj.cells:AObj->List ASlot
 | .row cs=>cs
 | _=> []
def ASlot.rows:ASlot->Option (Nat×List (List D))
 | .d (.sl es rows)=>some (es,rows)
 | .d .nilsl=>some (0,[])
 | .own _ es rows=>some (es,rows)
 | .full es rows=>some (es,rows)
 | _=>none
def ASlot.len?:ASlot->Option Nat
 | .d (.sl _ rows)=>some rows.length
 | .d .nilsl=>some 0
 | .d (.ref _ _ _ n)=>some n
 | .own _ _ rows=>some rows.length
 | .uni _ _ rows=>some rows.length
 | .full _ rows=>some rows.length
 | _=>none
def qd (s:List UInt8):List (List D):=s.map λc=> [.int .u8 c.toNat]
def qcj:List (List D) ->List UInt8
 | [.int _ n]::r=>UInt8.ofNat n.toNat::qcj r
 | _::r=>0::qcj r
 | []=> []
def qw1 (n:Nat) (a b:Int):Int:=(((BitVec.ofInt n a)&&&(BitVec.ofInt n b)).toNat:Int)
def bvOr (n:Nat) (a b:Int):Int:=(((BitVec.ofInt n a)|||(BitVec.ofInt n b)).toNat:Int)
def q0m (n:Nat) (a b:Int):Int:=(((BitVec.ofInt n a)^^^(BitVec.ofInt n b)).toNat:Int)
def xln (n:Nat) (a b:Int):Int:=(((BitVec.ofInt n a)&&& ~~~(BitVec.ofInt n b)).toNat:Int)
def qlg (op:BinOp) (k:IntKind) (a b:Int):ASlot×Prop:=
 match op with
 | .add=>(.d (.int k (k.wrap (a+b))),True)
 | .sub=>(.d (.int k (k.wrap (a-b))),True)
 | .mul=>(.d (.int k (k.wrap (a*b))),True)
 | .quo=>(.d (.int k (k.wrap (a.tdiv b))),b≠0)
 | .rem=>(.d (.int k (a.tmod b)),b≠0)
 | .and=>(.d (.int k (k.wrap (qw1 k.bits a b))),True)
 | .or=>(.d (.int k (k.wrap (bvOr k.bits a b))),True)
 | .xor=>(.d (.int k (k.wrap (q0m k.bits a b))),True)
 | .andNot=>(.d (.int k (k.wrap (xln k.bits a b))),True)
 | .eql=>(.d (.bool (a==b)),True)
 | .neq=>(.d (.bool (a !=b)),True)
 | .lss=>(.d (.bool (decide (a<b))),True)
 | .leq=>(.d (.bool (decide (a<=b))),True)
 | .gtr=>(.d (.bool (decide (a>b))),True)
 | .geq=>(.d (.bool (decide (a≥b))),True)
 | _=>(.bad,False)
def qof (op:BinOp) (a b:List UInt8):ASlot×Prop:=
 match op with
 | .add=>(.d (.str (a++b)),((a.length+b.length:Nat):Int)<=9223372036854775807)
 | .eql=>(.d (.bool (a==b)),True)
 | .neq=>(.d (.bool (!(a==b))),True)
 | .lss=>(.d (.bool (Op.bytesLess a b)),True)
 | .leq=>(.d (.bool (Op.bytesLess a b||a==b)),True)
 | .gtr=>(.d (.bool (!(Op.bytesLess a b||a==b))),True)
 | .geq=>(.d (.bool (!(Op.bytesLess a b))),True)
 | _=>(.bad,False)
def binS (op:BinOp):ASlot->ASlot->Out
 | .d (.int k a),.d (.int k' b)=>
  match op with
  | .shl=>{v:= .d (.int k (k.wrap (a*2^(min b.toNat k.bits)))),ob:=0<=b}
  | .shr=>{v:= .d (.int k (a.fdiv (2^(min b.toNat k.bits)))),ob:=0<=b}
  | _=>{v:=(qlg op k a b).1,ob:=k=k'∧(qlg op k a b).2}
 | .d (.str a),.d (.str b)=>{v:=(qof op a b).1,ob:=(qof op a b).2}
 | _,_=> .bad
def qpf:NK->ASlot->Option Bool
 | .ptr,.d .nilptr=>some true
 | .ptr,.d (.ptr ..)=>some false
 | .ptr,.rd _=>some false
 | .func,.d .nilfunc=>some true
 | .func,.d (.func ..)=>some false
 | .iface,.d .niliface=>some true
 | .iface,.d (.iface ..)=>some false
 | .map,.d .nilmap=>some true
 | .map,.d (.map _)=>some false
 | _,_=>none
def qck:Option ASlot->Option Int
 |some (.d (.int _ n))=>some n
 | _=>none
def qqg:List D->List (Nat×List D) ->List D
 |z,[]=>z
 |z,(off,cs)::r=>qqg (z.take off++cs++z.drop (off+cs.length)) r
def qcl (es:Nat):Nat->List D->List (List D)
 |0,_=> []
 |n+1,l=>l.take es::qcl es n (l.drop es)
def qab (os:List AObj) (id:Nat):Ents:=match os[id]?with|some (.map es _)=>es| _=> []
def ki (os:List AObj) (id:Nat):Nat:=match os[id]?with|some (.map _ c)=>c| _=>0
def qqh (os:List AObj) (id:Nat):Bool:=match os[id]?with|some (.map ..)=>true| _=>false
def qbx (k:D) (e:Nat×D×D):Bool:=match k,e.2.1 with
 | .int _ a,.int _ b=>a==b
 | .bool a,.bool b=>a==b
 | .str a,.str b=>a==b
 | .agg a,.agg b=>zq a b
 | _,_=>false
def keyFit (kd:KD) (k:D) (es:Ents):Bool:=kd.fit k k&&es.all λe=>kd.fit k e.2.1
def qbs (k:D) (es:Ents):Option D:=(es.find? (qbx k)).map (·.2.2)
def qh9 (k v:D) (clock:Nat) (es:Ents):Ents:=match es.findIdx? (qbx k)with
 |some j=>es.modify j λe=>(e.1,k,v)
 |none=>es++ [(clock,k,v)]
def qcm (k:D) (clock:Nat) (es:Ents):Nat:=match es.findIdx? (qbx k)with
 |some _=>clock
 |none=>clock+1
def qqi (k:D) (es:Ents):Ents:=match es.findIdx? (qbx k)with
 |some j=>es.eraseIdx j
 |none=>es
def qfp (c:Bool) (z:ASlot) (o:Option D):ASlot:=
 match c,o with
 |true,some d=> .tup [.d d,.d (.bool true)]
 |true,none=> .tup [z,.d (.bool false)]
 |false,some d=> .d d
 |false,none=>z
def qf8 (es:Ents) (seen:List Nat):Ents:=es.filter λe=> !seen.contains e.1
def qg4 (os:List AObj) (id:Nat):Bool:=match os[id]?with|some (.map ..)=>false|some (.iter ..)=>false| _=>true
def ql (os:List AObj) (id:Nat):List ASlot:=match os[id]?with|some o=>o.cells|none=> []
def qb1:List ASlot->Nat->List ASlot->List ASlot
 |cs,_,[]=>cs
 |cs,off,s::r=>qb1 (cs.set off s) (off+1) r
def storeAt (os:List AObj) (id off:Nat) (new:List ASlot):Nat×AObj:=(id,.row (qb1 (ql os id) off new))
def wy (n:Option Nat) (os:List AObj):ASlot->Out
 | .d (.ptr id off)=>
  match n with
  |none=>{v:=(ql os id).getD off .bad,rd:=some id,ob:=off<(ql os id).length}
  |some k=>{v:= .d (.agg ((((ql os id).drop off).take k).map ASlot.cellD)),rd:=some id,ob:=0<(ql os id).length∧off+k<=(ql os id).length∧(((ql os id).drop off).take k).all ASlot.isCellD=true}
 | .rd cs=>
  match n with
  |none=>{v:= .d (cs.getD 0 default),ob:=0<cs.length}
  |some k=>{v:= .d (.agg (cs.take k)),ob:=k<=cs.length}
 | _=> .bad
def yu (n:Option Nat) (os:List AObj) (p v:ASlot):Out:=
 match p with
 | .d (.ptr id off)=>
  match n with
  |none=>{v:= .bad,ob:=off<(ql os id).length∧v.isOne=true,wr:=some (storeAt os id off [v])}
  |some k=>match v with
   | .d (.agg cs)=>{v:= .bad,ob:=cs.length=k∧0<(ql os id).length∧off+k<=(ql os id).length∧cs.all D.isCell=true,wr:=some (storeAt os id off (cs.map .d))}
   | _=> .bad
 | _=> .bad
def qch:ASlot->List Nat
 | .own t _ _=> [t]
 | .uni t _ _=> [t]
 | _=> []
def qbt (os:List AObj) (id off es n:Nat):List (List D):=qcl es n (((ql os id).drop off).map ASlot.cellD)
def qtv (os:List AObj) (id off es n:Nat):Prop:=off+n*es<=(ql os id).length∧(((ql os id).drop off).take (n*es)).all ASlot.isCellD=true
structure Src where
 rows:List (List D)
 rd:Option Nat:=none
 ok:Prop:=True
def qcc (es:Nat) (os:List AObj):ASlot->Option Src
 | .d (.ref id off e n)=>if e=es then some ⟨qbt os id off es n,some id,qtv os id off es n⟩else none
 | _=>none
def qar (es:Nat) (os:List AObj):ASlot->Option Src
 | .d (.str l)=>if es=1 then some ⟨qd l,none,True⟩else none
 |x=>match x.rows with
  |some (e,r)=>if e=es∨r= []then some ⟨r,none,True⟩else none
  |none=>qcc es os x
def fits (bytes n:Nat):Prop:=n*bytes<=140737488355328∧n<=9223372036854775807
def qa3 (es bytes h:Nat) (r:Src):ASlot->Out
 | .uni t e l=>{v:= .uni h es (l++r.rows),ob:=r.ok∧e=es∧fits bytes (l.length+r.rows.length),rd:=r.rd,cons:= [t],iss:= [h]}
 | .d .nilsl=>{v:= .uni h es r.rows,ob:=r.ok∧fits bytes r.rows.length,rd:=r.rd,cons:= [],iss:= [h]}
 | .full _ l=>{v:= .uni h es r.rows,ob:=r.ok∧l= []∧fits bytes r.rows.length,rd:=r.rd,cons:= [],iss:= [h]}
 | _=> .bad
def km (u:Bool) (es bytes:Nat) (h:Nat) (os:List AObj) (s x:ASlot):Out:=
 match qar es os x with
 |some r=>
  match u with
  |true=>qa3 es bytes h r s
  |false=>
   match s.rows with
   |some (e,l)=>
    {v:= .own h es (l++r.rows),
     ob:=r.ok∧(e=es∨l= [])∧(match s with| .own _ _ _=>e=es| .full .. =>True| .d .nilsl=>True| _=>False)∧(l.length+r.rows.length)*bytes<=140737488355328∧l.length+r.rows.length<=9223372036854775807,
     rd:=r.rd,cons:=qch s,iss:= [h]}
   |none=> .bad
 |none=> .bad
def ASlot.void:ASlot->Bool
 | .full _ []=>true
 | .d .nilsl=>true
 | _=>false
def jt (back es bytes:Nat) (os:List AObj) (s x:ASlot):Out:=
 match qar es os x with
 |some r=>{v:= .d (.ref (os.length-back) 0 es r.rows.length),ob:=r.ok∧s.void=true∧fits bytes r.rows.length∧0<back∧back<=os.length∧os[os.length-back]? =some .none,rd:=r.rd,wr:=some (os.length-back,.row (r.rows.flatten.map .d))}
 |none=> .bad
def yw (es:Nat) (os:List AObj) (s x:ASlot):Out:=
 match qar es os x,s with
 |some r,.d (.ref id off e n)=>
  {v:= .d (.int .i64 (Nat.min r.rows.length n)),ob:=r.ok∧e=es∧qg4 os id=true∧(n=0∨off+n*es<=(ql os id).length),rd:=r.rd,wr:=some (storeAt os id off (((r.rows.take n).flatten).map .d))}
 | _,_=> .bad
def hiB (n:Nat):Option ASlot->Int
 |some s=>(qck (some s)).getD (-1)
 |none=>n
def loB:Option ASlot->Int
 |some s=>(qck (some s)).getD (-1)
 |none=>0
def qeh (es:Nat) (x:ASlot) (lo hi mx:Option ASlot):Out:=
 match x.rows with
 |some (e,l)=>
  let h:Int:=hiB l.length hi
  let b:Int:=loB lo
  let r:=(l.drop b.toNat).take (h.toNat-b.toNat)
  let ok:=(e=es∨l= [])∧0<=b∧b<=h∧h<=l.length
  match mx with
  |none=>{v:= .d (.sl e r),ob:=ok}
  |some m=>{v:= .full e r,ob:=ok∧qck (some m)=some h∧hi.isSome=true}
 |none=>match x with
  | .d (.ref id off e n)=>
   let h:Int:=hiB n hi
   let b:Int:=loB lo
   {v:= .d (.ref id (off+b.toNat*es) es (h.toNat-b.toNat)),ob:=e=es∧0<=b∧b<=h∧h<=n∧(match mx with|none=>True|some m=>qck (some m)=some h∧hi.isSome=true)}
  | _=> .bad
def yb (len es:Nat) (os:List AObj) (x:ASlot) (lo hi mx:Option ASlot):Out:=
 match x with
 | .d (.ptr id off)=>
  let h:Int:=hiB len hi
  let b:Int:=loB lo
  {v:= .d (.ref id (off+b.toNat*es) es (h.toNat-b.toNat)),rd:=some id,ob:=0<=b∧b<=h∧h<=len∧len<=4611686018427387904∧off+len*es<=(ql os id).length∧(match mx with|none=>True|some m=>qck (some m)=some h∧hi.isSome=true)}
 | _=> .bad
def qa4 (x:ASlot) (lo hi:Option ASlot):Out:=
 match x with
 | .d (.str l)=>
  let h:Int:=hiB l.length hi
  let b:Int:=loB lo
  {v:= .d (.str ((l.drop b.toNat).take (h.toNat-b.toNat))),ob:=0<=b∧b<=h∧h<=l.length}
 | _=> .bad
def vh (kd:KD) (z:ASlot) (c:Bool) (os:List AObj) (x k:ASlot):Out:=
 match x,k with
 | .d (.map id),.d k=>{v:=qfp c z (qbs k (qab os id)),rd:=some id,ob:=qqh os id=true∧keyFit kd k (qab os id)=true}
 | .d .nilmap,.d k=>{v:=qfp c z none,ob:=kd.fit k k=true}
 | _,_=> .bad
def zn (kd:KD) (os:List AObj) (x k v:ASlot):Out:=
 match x,k,v with
 | .d (.map id),.d k,.d v=>{v:= .bad,wr:=some (id,.map (qh9 k v (ki os id) (qab os id)) (qcm k (ki os id) (qab os id))),ob:=qqh os id=true∧keyFit kd k (qab os id)=true∧v.noPtr=true}
 | _,_,_=> .bad
def vw (kd:KD) (os:List AObj) (x k:ASlot):Out:=
 match x,k with
 | .d (.map id),.d k=>{v:= .tup [],wr:=some (id,.map (qqi k (qab os id)) (ki os id)),ob:=qqh os id=true∧keyFit kd k (qab os id)=true}
 | _,_=> .bad
def qbu (os:List AObj) (x:ASlot):Out:=
 match x with
 | .d (.map id)=>{v:= .d (.int .i64 (qab os id).length),rd:=some id,ob:=qqh os id=true}
 | .d .nilmap=>{v:= .d (.int .i64 0),ob:=True}
 | _=> .bad
def ko (back:Nat) (os:List AObj) (x:ASlot):Out:=
 match x with
 | .d (.map id)=>{v:= .d (.ptr (os.length-back) 0),rd:=some id,wr:=some (os.length-back,.iter (.d (.map id)) (ki os id) [] (ki os id)),ob:=qqh os id=true∧0<back∧back<=os.length∧os[os.length-back]? =some .none}
 | .d .nilmap=>{v:= .d (.ptr (os.length-back) 0),wr:=some (os.length-back,.iter (.d .nilmap) 0 [] 0),ob:=0<back∧back<=os.length∧os[os.length-back]? =some .none}
 | _=> .bad
def qa5 (t:TypeId) (c:Bool) (x:ASlot):Out:=
 match x with
 | .d (.iface t' d)=>{v:=match c with|true=> .tup [.d d,.d (.bool true)]|false=> .d d,ob:=t'=t}
 | _=> .bad
def sem (tb:Nat) (o:SOp) (st:St):Out:=
 let fr:=st.fr
 match o with
 | .mov x=>{v:=x.get fr,ob:=x.ok fr=true}
 | .pick c a b=>
  match c.get fr,a.get fr,b.get fr with
  | .d (.bool c'),.d (.bool a'),.d (.bool b')=>{v:= .d (.bool (if c' then a' else b')),ob:=c.ok fr=true∧(c'=true->a.ok fr=true)∧(c'=false->b.ok fr=true)}
  | .d (.bool false),.bad,.d (.bool b')=>{v:= .d (.bool b'),ob:=c.ok fr=true∧b.ok fr=true}
  | .d (.bool true),.d (.bool a'),.bad=>{v:= .d (.bool a'),ob:=c.ok fr=true∧a.ok fr=true}
  | _,_,_=> .bad
 | .box back x=>{v:= .d (.ptr (st.os.length-back) 0),ob:=x.ok fr=true∧(x.get fr).toCells.all ASlot.isOne=true∧0<back∧back<=st.os.length∧st.os[st.os.length-back]? =some .none,wr:=some (st.os.length-back,.row (x.get fr).toCells)}
 | .alloc back zero=>{v:= .d (.ptr (st.os.length-back) 0),ob:=0<back∧back<=st.os.length∧st.os[st.os.length-back]? =some .none,wr:=some (st.os.length-back,.row zero)}
 | .build zero parts=>
  {v:= .d (.agg (qqg zero (parts.map λp=>(p.1,(p.2.2.get fr).dCells)))),
   ob:= ∀p∈parts,p.2.2.ok fr=true∧(p.2.2.get fr).dCellsOk=true∧(p.2.2.get fr).dCells.length=p.2.1∧p.1+p.2.1<=zero.length}
 | .buildSlice u es len zero parts=>
  {v:=match u with|true=> .uni tb es (qcl es len (qqg ((List.replicate len zero).flatten) (parts.map λp=>(p.1,(p.2.2.get fr).dCells))))|false=> .full es (qcl es len (qqg ((List.replicate len zero).flatten) (parts.map λp=>(p.1,(p.2.2.get fr).dCells)))),
   ob:=(∀p∈parts,p.2.2.ok fr=true∧(p.2.2.get fr).dCellsOk=true∧(p.2.2.get fr).dCells.length=p.2.1∧p.1+p.2.1<=len*es)∧(u=true->len<=1000),
   iss:=match u with|true=> [tb]|false=> []}
 | .load n x=>let r:=wy n st.os (x.get fr);{r with ob:=x.ok fr=true∧r.ob}
 | .store n x v=>let r:=yu n st.os (x.get fr) (v.get fr);{r with ob:=x.ok fr=true∧v.ok fr=true∧r.ob}
 | .nilCheck x=>{v:=x.get fr,ob:=x.ok fr=true∧(match x.get fr with| .d (.ptr ..)=>True| .rd _=>True| .d (.func (.func _) _ _)=>True| _=>False)}
 | .bin op x y=>let r:=binS op (x.get fr) (y.get fr);{r with ob:=x.ok fr=true∧y.ok fr=true∧r.ob}
 | .eqb neg x y=>
  match x.get fr,y.get fr with
  | .d (.bool a),.d (.bool b)=>{v:= .d (.bool (if neg then !(a==b)else a==b)),ob:=x.ok fr=true∧y.ok fr=true}
  | _,_=> .bad
 | .eqnil neg k x=>
  match qpf k (x.get fr)with
  |some b=>{v:= .d (.bool (if neg then !b else b)),ob:=x.ok fr=true}
  |none=> .bad
 | .eqnilS .. => .bad
 | .eqAgg neg ks x y=>
  match x.get fr,y.get fr with
  | .d (.agg a),.d (.agg b)=>{v:= .d (.bool (if neg then !(zq a b)else zq a b)),ob:=x.ok fr=true∧y.ok fr=true∧eqOk ks a b=true}
  | _,_=> .bad
 | .not x=>match x.get fr with| .d (.bool b)=>{v:= .d (.bool !b),ob:=x.ok fr=true}| _=> .bad
 | .neg x=>match x.get fr with| .d (.int k n)=>{v:= .d (.int k (k.wrap (0-n))),ob:=x.ok fr=true}| _=> .bad
 | .conv k x=>match x.get fr with| .d (.int _ n)=>{v:= .d (.int k (k.wrap n)),ob:=x.ok fr=true}| _=> .bad
 | .i2s x=>match x.get fr with| .d (.int _ n)=>{v:= .d (.str (Utf8.encode n).data.toList),ob:=x.ok fr=true}| _=> .bad
 | .b2s x=>
  match (x.get fr).rows with
  |some (_,r)=>{v:= .d (.str (qcj r)),ob:=x.ok fr=true∧ ∃l,r=qd l}
  |none=>match qcc 1 st.os (x.get fr)with
   |some r=>{v:= .d (.str (qcj r.rows)),rd:=r.rd,ob:=x.ok fr=true∧r.ok∧ ∃l,r.rows=qd l}
   |none=> .bad
 | .s2b x=>match x.get fr with| .d (.str l)=>{v:= .d (.sl 1 (qd l)),ob:=x.ok fr=true}| _=> .bad
 | .mkFunc fn first captured=>
  {v:= .d (.func fn (first.map λx=>(x.get fr).cellD) (captured.map λx=>(x.get fr).cellD)),
   ob:=(∀x∈first,x.ok fr=true∧ ∃d,x.get fr= .d d)∧(∀x∈captured,x.ok fr=true∧ ∃d,x.get fr= .d d)}
 | .makeSlice u es bytes zero l c=>
  match l.get fr,c.get fr with
  | .d (.int _ a),.d (.int _ b)=>
   {v:=match u with|true=> .uni tb es (List.replicate a.toNat zero)|false=> .own tb es (List.replicate a.toNat zero),ob:=l.ok fr=true∧c.ok fr=true∧0<=a∧a<=b∧b<=9223372036854775807∧b*bytes<=281474976710656,iss:= [tb]}
  | _,_=> .bad
 | .makeSliceO back es bytes zero l c=>
  match l.get fr,c.get fr with
  | .d (.int _ a),.d (.int _ b)=>
   {v:= .d (.ref (st.os.length-back) 0 es a.toNat),wr:=some (st.os.length-back,.row ((List.replicate a.toNat zero).flatten.map .d)),
    ob:=(l.ok fr=true∧c.ok fr=true∧0<=a∧a<=b∧b<=1000000000∧b*bytes<=281474976710656)∧0<back∧back<=st.os.length∧st.os[st.os.length-back]? =some .none}
  | _,_=> .bad
 | .slice es x lo hi mx=>
  let r:=qeh es (x.get fr) (lo.map (·.get fr)) (hi.map (·.get fr)) (mx.map (·.get fr))
  {r with ob:=x.ok fr=true∧(∀y∈lo,y.ok fr=true)∧(∀y∈hi,y.ok fr=true)∧(∀y∈mx,y.ok fr=true)∧r.ob}
 | .sliceA len es x lo hi mx=>
  let r:=yb len es st.os (x.get fr) (lo.map (·.get fr)) (hi.map (·.get fr)) (mx.map (·.get fr))
  {r with ob:=x.ok fr=true∧(∀y∈lo,y.ok fr=true)∧(∀y∈hi,y.ok fr=true)∧(∀y∈mx,y.ok fr=true)∧r.ob}
 | .sliceS x lo hi=>
  let r:=qa4 (x.get fr) (lo.map (·.get fr)) (hi.map (·.get fr))
  {r with ob:=x.ok fr=true∧(∀y∈lo,y.ok fr=true)∧(∀y∈hi,y.ok fr=true)∧r.ob}
 | .faddr off x=>
  match x.get fr with
  | .d (.ptr id o)=>{v:= .d (.ptr id (o+off)),ob:=x.ok fr=true}
  | .rd cs=>{v:= .rd (cs.drop off),ob:=x.ok fr=true∧off<=cs.length}
  | _=> .bad
 | .field n off x=>
  match x.get fr with
  | .d (.agg cs)=>
   match n with
   |none=>{v:= .d (cs.getD off default),ob:=x.ok fr=true∧off<cs.length}
   |some k=>{v:= .d (.agg ((cs.drop off).take k)),ob:=x.ok fr=true∧off+k<=cs.length}
  | _=> .bad
 | .iaddr es x i=>
  match (x.get fr).rows,i.get fr with
  |some (e,l),.d (.int _ n)=>{v:= .rd (l.getD n.toNat []),ob:=x.ok fr=true∧i.ok fr=true∧e=es∧0<=n∧n<l.length}
  |none,.d (.int _ n)=>
   match x.get fr with
   | .d (.ref id off e len)=>{v:= .d (.ptr id (off+n.toNat*es)),ob:=x.ok fr=true∧i.ok fr=true∧e=es∧0<=n∧n<len}
   | _=> .bad
  | _,_=> .bad
 | .iaddrA len es x i=>
  match x.get fr,i.get fr with
  | .d (.ptr id o),.d (.int _ n)=>{v:= .d (.ptr id (o+n.toNat*es)),ob:=x.ok fr=true∧i.ok fr=true∧0<=n∧n<len}
  | .rd cs,.d (.int _ n)=>{v:= .rd (cs.drop (n.toNat*es)),ob:=x.ok fr=true∧i.ok fr=true∧0<=n∧n<len∧len*es<=cs.length}
  | _,_=> .bad
 | .indexS x i=>
  match x.get fr,i.get fr with
  | .d (.str l),.d (.int _ n)=>{v:= .d (.int .u8 (l.getD n.toNat 0).toNat),ob:=x.ok fr=true∧i.ok fr=true∧0<=n∧n<l.length}
  | _,_=> .bad
 | .indexA len es n x i=>
  match x.get fr,i.get fr with
  | .d (.agg cs),.d (.int _ j)=>
   match n with
   |none=>{v:= .d (cs.getD (j.toNat*es) default),ob:=x.ok fr=true∧i.ok fr=true∧0<=j∧j<len∧j.toNat*es<cs.length}
   |some k=>{v:= .d (.agg ((cs.drop (j.toNat*es)).take k)),ob:=x.ok fr=true∧i.ok fr=true∧0<=j∧j<len∧j.toNat*es+k<=cs.length}
  | _,_=> .bad
 | .extract i x=>
  match x.get fr with
  | .tup l=>{v:=l.getD i .bad,ob:=x.ok fr=true∧i<l.length}
  | _=> .bad
 | .len x=>
  match (x.get fr).len? with
  |some n=>{v:= .d (.int .i64 n),ob:=x.ok fr=true}
  |none=> .bad
 | .lenS x=>match x.get fr with| .d (.str l)=>{v:= .d (.int .i64 l.length),ob:=x.ok fr=true}| _=> .bad
 | .asStr x=>match x.get fr with| .d (.str l)=>{v:= .d (.str l),ob:=x.ok fr=true}| _=> .bad
 | .append u es bytes s x=>let r:=km u es bytes tb st.os (s.get fr) (x.get fr);{r with ob:=s.ok fr=true∧x.ok fr=true∧r.ob}
 | .appendO back es bytes s x=>let r:=jt back es bytes st.os (s.get fr) (x.get fr);{r with ob:=s.ok fr=true∧x.ok fr=true∧r.ob}
 | .copy es s x=>let r:=yw es st.os (s.get fr) (x.get fr);{r with ob:=s.ok fr=true∧x.ok fr=true∧r.ob}
 | .minmax mx x y=>
  match x.get fr,y.get fr with
  | .d (.int k a),.d (.int k' b)=>{v:= .d (.int k (match mx with|true=>(if b>a then b else a)|false=>(if b<a then b else a))),ob:=x.ok fr=true∧y.ok fr=true∧k=k'}
  | _,_=> .bad
 | .makeMap back=>{v:= .d (.map (st.os.length-back)),ob:=0<back∧back<=st.os.length∧st.os[st.os.length-back]? =some .none,wr:=some (st.os.length-back,.map [] 0)}
 | .lookup kd z c x k=>let r:=vh kd z c st.os (x.get fr) (k.get fr);{r with ob:=x.ok fr=true∧k.ok fr=true∧r.ob}
 | .mapUpdate kd x k v=>let r:=zn kd st.os (x.get fr) (k.get fr) (v.get fr);{r with ob:=x.ok fr=true∧k.ok fr=true∧v.ok fr=true∧r.ob}
 | .delete kd x k=>let r:=vw kd st.os (x.get fr) (k.get fr);{r with ob:=x.ok fr=true∧k.ok fr=true∧r.ob}
 | .lenM x=>let r:=qbu st.os (x.get fr);{r with ob:=x.ok fr=true∧r.ob}
 | .rangeM back x=>let r:=ko back st.os (x.get fr);{r with ob:=x.ok fr=true∧r.ob}
 | .nextM .. => .bad
 | .appendR .. => .bad
 | .entryM .. => .bad
 | .s2ap n x=>
  match (x.get fr).rows with
  |some (_,l)=>{v:= .rd ((l.take n).flatten),ob:=x.ok fr=true∧0<n∧n<=l.length}
  |none=> .bad
 | .mkIface t x=>match x.get fr with| .d d=>{v:= .d (.iface t d),ob:=x.ok fr=true}| _=> .bad
 | .assertT t c x=>let r:=qa5 t c (x.get fr);{r with ob:=x.ok fr=true∧r.ob}
 | .call .. => .bad
 | .callT .. => .bad
def qc4:Value->Option D
 | .int k n=>some (.int k n)
 | .bool b=>some (.bool b)
 | .string s=>some (.str s.data.toList)
 | .pointer none=>some .nilptr
 | .nilFunc=>some .nilfunc
 | .nilIface=>some .niliface
 | .map none=>some .nilmap
 | .slice none 0 0=>some .nilsl
 | _=>none
def qlh:Value->Option ASlot
 | .agg cs=>(cs.toList.mapM qc4).map λl=> .d (.agg l)
 |v=>(qc4 v).map .d
def xe1:Value->Option ASlot
 |v=>(qc4 v).map .d
def qr:Operand->Option Opd
 | .tmp t=>some (.t t)
 | .const v=>(qlh v).map .k
 | .func f=>some (.k (.d (.func (.func f) [] [])))
 | .global k=>if xbc.contains k then some (.k (.rd [.any]))else none
section
variable (P:Program)
def aggN (t:TypeId):Option (Option Nat):=
 match P.info? t,P.underlying t with
 |some i,some (.struct _)=>some (some i.size)
 |some i,some (.array _ _)=>some (some i.size)
 |some i,some _=>if i.size=1 then some none else none
 | _,_=>none
def jm (t:TypeId):Option (List D):=
 match P.info? t with
 |some i=>match i.zero with
  |some z=>z.cells.toList.mapM qc4
  |none=>none
 |none=>none
def qm1 (t:TypeId):Option (List ASlot):=
 match P.info? t with
 |some i=>match i.zero with
  |some z=>z.cells.toList.mapM xe1
  |none=>none
 |none=>none
def qm2 (t:TypeId) (i:Nat):Option (Nat×Nat):=
 match P.underlying t with
 |some (.struct fs)=>match fs[i]?with
  |some f=>(P.info? f.type).map λj=>(f.offset,j.size)
  |none=>none
 |some (.array _ e)=>(P.info? e).map λj=>(i*j.size,j.size)
 |some (.slice e)=>(P.info? e).map λj=>(i*j.size,j.size)
 | _=>none
def partsOf (t:TypeId) (d:List (Nat×Operand)):Option (List (Nat×Nat×Opd)):=
 d.mapM λp=>match qm2 P t p.1,qr p.2 with
  |some (off,size),some x=>some (off,size,x)
  | _,_=>none
def j0 (sub:List Field->Option (List CK)):Nat->List Field->Option (List CK)
 | _,[]=>some []
 |i,f::fs=>
  if f.offset=i∧f.name≠ "_" then
   match P.underlying f.type,(P.info? f.type).map (·.size)with
   |some (.int _),some 1=>(j0 sub (i+1) fs).map (.int:: ·)
   |some .bool,some 1=>(j0 sub (i+1) fs).map (.bool:: ·)
   |some .string,some 1=>(j0 sub (i+1) fs).map (.str:: ·)
   |some (.struct gs),some n=>if P.stoodInHeld f.type=false then match sub gs.toList,j0 sub (i+n) fs with
    |some a,some b=>if a.length=n then some (a++b)else none
    | _,_=>none else none
   | _,_=>none
  else none
def qji (fs:List Field):Option (List CK):=j0 P (j0 P (λ_=>none) 0) 0 fs
def qg5 (t:TypeId):Option (List CK):=
 match P.underlying t with
 |some (.struct fs)=>if P.stoodInHeld t=false∧P.eqGuardType P.depth t=false then qji P fs.toList else none
 |some (.array n e)=>if P.eqGuardType P.depth t=false∧(P.info? e).map (·.size)=some 1 then
  match P.underlying e with
  |some (.int _)=>some (List.replicate n .int)
  | _=>none else none
 | _=>none
def qjj:Operand->Bool
 | .const (.slice none 0 0)=>true
 | _=>false
def q5k (d:TypeDesc) (y:Operand):Option NK:=
 match d,y with
 | .pointer _,.const (.pointer none)=>some .ptr
 | .func _ _ _,.const .nilFunc=>some .func
 | .interface _,.const .nilIface=>some .iface
 | .map _ _,.const (.map none)=>some .map
 | _,_=>none
def kdOf (t:TypeId):Option KD:=match P.underlying t with
 |some (.int k)=>some (.int k)
 |some .bool=>some .bool
 |some .string=>some .str
 |some (.struct fs)=>if P.stoodInHeld t=false then(qji P fs.toList).map .agg else none
 | _=>none
def xlo (t:TypeId):Option ASlot:=match P.info? t with
 |some i=>i.zero.bind qlh
 |none=>none
def mkSl (d oo:Bool) (back es bytes:Nat) (z:List D) (a b:Opd):SOp:=if oo then .makeSliceO (back+(if d then 2 else 1)) es bytes z a b else .makeSlice d es bytes z a b
def qb2 (d oo:Bool) (back es bytes:Nat) (a b:Opd):SOp:=if oo then(if d then .appendR (back+1) es bytes a b else .appendO (back+1) es bytes a b)else .append d es bytes a b
def q0n (uu:Bool) (a:Opd) (l:List Opd):SOp:=match uu with|true=> .callT a l|false=> .call a l
def xe (o p:Bool) (back:Nat):Op->Option SOp
 | .move x=>(qr x).map .mov
 | .assign x=>(qr x).map .mov
 | .pick c a b=>match qr c,qr a,qr b with
  |some c,some a,some b=>some (.pick c a b)
  | _,_,_=>none
 | .box _ x=>(qr x).map (.box back)
 | .alloc t=>(qm1 P t).map (.alloc back)
 | .build t parts=>match jm P t,partsOf P t parts.toList,P.underlying t with
  |some z,some ps,some (.struct fs)=>if(fs.toList.mapM λf=>(P.info? f.type).map λi=>(f.offset,i.size)).isSome then some (.build z ps)else none
  |some z,some ps,some (.array _ e)=>if(P.info? e).isSome then some (.build z ps)else none
  | _,_,_=>none
 | .buildSlice t len parts=>match P.underlying t with
  |some (.slice e)=>match jm P e,partsOf P t parts.toList,P.info? e with
   |some z,some ps,some i=>if i.size=z.length∧0<i.size∧len*i.size<=16777216 then some (.buildSlice o i.size len z ps)else none
   | _,_,_=>none
  | _=>none
 | .load t a=>match aggN P t,qr a with
  |some n,some x=>some (.load n x)
  | _,_=>none
 | .store t a v=>match aggN P t,qr a,qr v with
  |some n,some x,some y=>some (.store n x y)
  | _,_,_=>none
 | .nilCheck x=>(qr x).map .nilCheck
 | .binOp op t x y _=>match qr x,qr y,P.underlying t with
  |some a,some b,some (.int _)=>some (.bin op a b)
  |some a,some b,some .string=>some (.bin op a b)
  |some a,some b,some .bool=>match op with
   | .eql=>some (.eqb false a b)
   | .neq=>some (.eqb true a b)
   | _=>none
  |some a,some _,some (.slice _)=>if qjj y then(match op with
   | .eql=>some (.eqnilS false a)
   | .neq=>some (.eqnilS true a)
   | _=>none)else none
  |some a,some b,some (.struct _)=>match qg5 P t,op with
   |some ks,.eql=>some (.eqAgg false ks a b)
   |some ks,.neq=>some (.eqAgg true ks a b)
   | _,_=>none
  |some a,some b,some (.array _ _)=>match qg5 P t,op with
   |some ks,.eql=>some (.eqAgg false ks a b)
   |some ks,.neq=>some (.eqAgg true ks a b)
   | _,_=>none
  |some a,some _,some d=>match q5k d y,op with
   |some k,.eql=>some (.eqnil false k a)
   |some k,.neq=>some (.eqnil true k a)
   | _,_=>none
  | _,_,_=>none
 | .unOp op _ x=>match op,qr x with
  | .not,some a=>some (.not a)
  | .neg,some a=>some (.neg a)
  | _,_=>none
 | .convert src dst x=>match P.underlying src,P.underlying dst,qr x with
  |some (.int _),some (.int k),some a=>some (.conv k a)
  |some .string,some .string,some a=>some (.asStr a)
  |some (.int _),some .string,some a=>some (.i2s a)
  |some (.slice e),some .string,some a=>match P.underlying e with
   |some (.int .u8)=>some (.b2s a)
   | _=>none
  |some .string,some (.slice e),some a=>match P.underlying e with
   |some (.int .u8)=>some (.s2b a)
   | _=>none
  | _,_,_=>none
 | .makeFunc fn first captured=>match first.toList.mapM qr,captured.toList.mapM qr with
  |some a,some b=>some (.mkFunc fn a b)
  | _,_=>none
 | .makeSlice t l c=>match P.underlying t with
  |some (.slice e)=>match jm P e,P.info? e,qr l,qr c with
   |some z,some i,some a,some b=>if i.size=z.length∧0<i.size then some (mkSl o p back i.size i.bytes z a b)else none
   | _,_,_,_=>none
  | _=>none
 | .slice t x lo hi mx=>match P.underlying t,qr x,lo.mapM qr,hi.mapM qr,mx.mapM qr with
  |some (.slice e),some a,some l,some h,some m=>(P.info? e).map λi=> .slice i.size a l h m
  |some .string,some a,some l,some h,some none=>some (.sliceS a l h)
  |some (.array n e),some a,some l,some h,some m=>match P.info? e with
   |some i=>if 0<i.size then some (.sliceA n i.size a l h m)else none
   |none=>none
  | _,_,_,_,_=>none
 | .fieldAddr t x f=>match P.underlying t,qr x with
  |some (.struct fs),some a=>match fs[f]?with
   |some g=>match P.info? g.type with
    |some i=>if i.size=0 then none else some (.faddr g.offset a)
    |none=>none
   |none=>none
  | _,_=>none
 | .field t x f=>match P.underlying t,qr x with
  |some (.struct fs),some a=>match fs[f]?with
   |some g=>(aggN P g.type).map λn=> .field n g.offset a
   |none=>none
  | _,_=>none
 | .indexAddr t x i=>match P.underlying t,qr x,qr i with
  |some (.slice e),some a,some b=>match P.info? e with
   |some j=>if 0<j.size then some (.iaddr j.size a b)else none
   |none=>none
  |some (.array n e),some a,some b=>match P.info? e with
   |some j=>if 0<j.size then some (.iaddrA n j.size a b)else none
   |none=>none
  | _,_,_=>none
 | .index t x i=>match P.underlying t,qr x,qr i with
  |some .string,some a,some b=>some (.indexS a b)
  |some (.array n e),some a,some b=>match P.info? e,aggN P e with
   |some j,some k=>some (.indexA n j.size k a b)
   | _,_=>none
  | _,_,_=>none
 | .extract x i=>(qr x).map (.extract i)
 | .call c=>match c.callee with
  | .value f=>match qr f,c.args.toList.mapM qr with
   |some a,some l=>some (q0n o a l)
   | _,_=>none
  | .builtin .len=>match c.args.toList,c.argTypes.toList with
   | [x],[t]=>match qr x,P.underlying t with
    |some a,some .string=>some (.lenS a)
    |some a,some (.slice _)=>some (.len a)
    |some a,some (.map _ _)=>some (.lenM a)
    | _,_=>none
   | _,_=>none
  | .builtin .append=>match c.args.toList,c.argTypes.toList with
   | [s,x],[t,u]=>match P.underlying t,P.underlying u,qr s,qr x with
    |some (.slice e),some (.slice _),some a,some b=>match P.info? e,jm P e with
     |some i,some z=>if i.size=z.length∧0<i.size∧0<i.bytes then some (qb2 o p back i.size i.bytes a b)else none
     | _,_=>none
    |some (.slice e),some .string,some a,some b=>match P.info? e,jm P e with
     |some i,some z=>if i.size=z.length∧i.size=1∧0<i.bytes then some (qb2 o p back i.size i.bytes a b)else none
     | _,_=>none
    | _,_,_,_=>none
   | _,_=>none
  | .builtin .copy=>match c.args.toList,c.argTypes.toList with
   | [s,x],[t,u]=>match P.underlying t,P.underlying u,qr s,qr x with
    |some (.slice e),some (.slice _),some a,some b=>(P.info? e).map λi=> .copy i.size a b
    |some (.slice e),some .string,some a,some b=>match P.info? e with
     |some i=>if i.size=1 then some (.copy i.size a b)else none
     |none=>none
    | _,_,_,_=>none
   | _,_=>none
  | .builtin .delete=>match c.args.toList,c.argTypes.toList with
   | [x,k],t::_=>match P.underlying t,qr x,qr k with
    |some (.map kt _),some a,some b=>(kdOf P kt).map λkd=> .delete kd a b
    | _,_,_=>none
   | _,_=>none
  | .builtin .min=>match c.args.toList with
   | [x,y]=>match qr x,qr y with
    |some a,some b=>some (.minmax false a b)
    | _,_=>none
   | _=>none
  | .builtin .max=>match c.args.toList with
   | [x,y]=>match qr x,qr y with
    |some a,some b=>some (.minmax true a b)
    | _,_=>none
   | _=>none
  | _=>none
 | .makeMap _ none=>some (.makeMap back)
 | .lookup t x k c=>match P.underlying t,qr x,qr k with
  |some (.map kt et),some a,some b=>match kdOf P kt,xlo P et with
   |some kd,some z=>some (.lookup kd z c a b)
   | _,_=>none
  | _,_,_=>none
 | .mapUpdate t x k v=>match P.underlying t,qr x,qr k,qr v with
  |some (.map kt _),some a,some b,some c=>(kdOf P kt).map λkd=> .mapUpdate kd a b c
  | _,_,_,_=>none
 | .insert t x k v=>match P.underlying t,qr x,qr k,qr v with
  |some (.map kt _),some a,some b,some c=>(kdOf P kt).map λkd=> .mapUpdate kd a b c
  | _,_,_,_=>none
 | .range t x=>match P.underlying t,qr x with
  |some (.map _ _),some a=>some (.rangeM back a)
  | _,_=>none
 | .next x false=>(qr x).map .nextM
 | .entry x=>(qr x).map .entryM
 | .sliceToArrayPointer t x=>match P.underlying t,qr x with
  |some (.array n _),some a=>some (.s2ap n a)
  | _,_=>none
 | .makeInterface t x=>match P.underlying t,qr x with
  |some (.interface _),_=>none
  |some _,some a=>some (.mkIface t a)
  | _,_=>none
 | .typeAssert x _ t c=>match P.underlying t,qr x with
  |some (.interface _),_=>none
  |some _,some a=>some (.assertT t c a)
  | _,_=>none
 | _=>none
def qei (mu:List Nat) (ops:Array Oper) (N back:Nat) (o:Oper):Option SOper:=
 match xe P (o.dst.any mu.contains) (o.dst.any λd=>mu.contains (d+1000000)) back o.op with
 |none=>none
 |some op=>
  if o.dst.all (· <N)then
   match o.guard with
   |none=>some {dst:=o.dst,op}
   |some (j,b)=>match (ops[j]?).bind (·.dst)with
    |some d=>some {dst:=o.dst,op,guard:=some (d,b)}
    |none=>none
  else none
end
def Opd.slot:Opd->List Nat
 | .t n=> [n]
 | .k _=> []
def SOp.opds:SOp->List Opd
 | .mov x| .box _ x| .load _ x| .nilCheck x| .eqnil _ _ x| .eqnilS _ x| .not x| .neg x| .conv _ x| .i2s x| .b2s x| .s2b x| .faddr _ x| .field _ _ x| .extract _ x| .len x| .lenS x| .asStr x| .lenM x| .rangeM _ x| .nextM x| .entryM x| .s2ap _ x| .mkIface _ x| .assertT _ _ x=> [x]
 | .pick c a b=> [c,a,b]
 | .mapUpdate _ a b c=> [a,b,c]
 | .lookup _ _ _ x v| .delete _ x v=> [x,v]
 | .alloc .. => []
 | .makeMap .. => []
 | .build _ ps| .buildSlice _ _ _ _ ps=>ps.map (·.2.2)
 | .store _ x v| .bin _ x v| .eqb _ x v| .eqAgg _ _ x v| .makeSlice _ _ _ _ x v| .makeSliceO _ _ _ _ x v| .copy _ x v| .minmax _ x v| .iaddr _ x v| .iaddrA _ _ x v| .indexS x v| .indexA _ _ _ x v| .append _ _ _ x v| .appendO _ _ _ x v| .appendR _ _ _ x v=> [x,v]
 | .mkFunc _ a b=>a++b
 | .slice _ x lo hi mx=>x::(lo.toList++hi.toList++mx.toList)
 | .sliceA _ _ x lo hi mx=>x::(lo.toList++hi.toList++mx.toList)
 | .sliceS x lo hi=>x::(lo.toList++hi.toList)
 | .call f args| .callT f args=>f::args
def SOper.looks (o:SOper):List Nat:=o.op.opds.flatMap Opd.slot++(match o.guard with|some (k,_)=> [k]|none=> [])
def SOp.memR:SOp->Bool
 | .lookup .. | .lenM .. | .rangeM .. | .load .. | .append .. | .appendO .. | .appendR .. | .copy .. | .b2s .. | .sliceA .. =>true
 | _=>false
def SOp.memW:SOp->Bool
 | .makeMap .. | .mapUpdate .. | .delete .. | .rangeM .. | .store .. | .box .. | .alloc .. | .makeSliceO .. | .appendO .. | .appendR .. | .call .. | .callT .. | .copy .. =>true
 | _=>false
def SOp.isNilS:SOp->Bool
 | .eqnilS .. =>true
 | .nextM .. =>true
 | .appendR .. =>true
 | .entryM .. =>true
 | .callT .. =>true
 | _=>false
def Opd.clean:Opd->Bool
 | .t _=>true
 | .k (.own ..)=>false
 | .k (.uni ..)=>false
 | .k (.tup _)=>false
 | .k _=>true
def SOper.apart (x y:SOper):Bool:=
 (match x.dst with|some d=> !y.looks.contains d&&y.dst !=some d|none=>true)&&
 (match y.dst with|some d=> !x.looks.contains d|none=>true)
def qpg (ops:List Oper):List (List Nat):=
 ops.foldl (init:= []) λd o=>d++ [((o.after.toList.filter (Region.binds .any)).flatMap λe=>e.on::d.getD e.on []).eraseDups]
def qli (ps:List (List Nat)) (i j:Nat):Bool:= !(ps.getD j []).contains i
def xlp (ps:List (List Nat)) (sops:List SOper):Bool:=
 (List.range sops.length).all λj=>(List.range j).all λi=>
  !qli ps i j||(match sops[i]?,sops[j]?with|some x,some y=>x.apart y| _,_=>false)
def qpt (ps:List (List Nat)) (sops:List SOper):List (Nat×Nat):=
 (List.range sops.length).flatMap λj=>(List.range j).filterMap λi=>
  if qli ps i j&&(match sops[i]?,sops[j]?with|some x,some y=>(x.op.memW&&(y.op.memR||y.op.memW))||(x.op.memR&&y.op.memW)| _,_=>false)then some (i,j)else none
def qqj (ops:List Oper):Bool:=
 ops.zipIdx.all λ(o,i)=>(o.after.toList.filter (Region.binds .any)).all λe=>e.on<i
def Op.allocs:Op->Bool
 | .box .. | .alloc _| .makeMap .. | .range .. =>true
 | _=>false
section
variable (P:Program) (mu:List Nat) (N:Nat)
def qf9 (ops:Array Oper):List Oper->Option (List SOper)
 | []=>some []
 |o::l=>match qei P mu ops N ((o::l).countP (Op.allocs ·.op)) o,qf9 ops l with
  |some x,some r=>some (x::r)
  | _,_=>none
def q0o (news:List (FuncId×Nat)):List SOper->Nat
 | []=>0
 |o::l=>(match o.op with
  | .call (.k (.d (.func (.func f) _ _))) _=>(news.lookup f).getD 0
  | .callT (.k (.d (.func (.func f) _ _))) _=>(news.lookup f).getD 0
  | .appendO .. =>1
  | .makeSliceO .. =>1
  | .appendR .. =>1
  | _=>0)+q0o news l
def qm3 (news:List (FuncId×Nat)) (ops:Array Oper) (d:Bool):Option (List SOper×Nat×List (Nat×Nat)):=
 match qf9 P mu N ops ops.toList with
 |none=>none
 |some sops=>
  let k:=q0o news sops+ops.toList.countP (Op.allocs ·.op)
  if d then
   if qqj ops.toList&&xlp (qpg ops.toList) sops&& !sops.any (·.op.isNilS)&&sops.all (·.op.opds.all Opd.clean)then some (sops,k,qpt (qpg ops.toList) sops)else none
  else some (sops,k,[])
def yc:Code->Bool
 | .rangeFunc .. =>false
 | .seq a b=>yc a&&yc b
 | .cond _ a b=>yc a&&yc b
 | .block _ a=>yc a
 | .loop a=>yc a
 | .scope a=>yc a
 | _=>true
def zy (news:List (FuncId×Nat)):Code->Option SCode
 | .skip=>some .skip
 | .region _ ops draw=>(qm3 P mu N news ops draw).map λl=> .region l.1 l.2.1 l.2.2
 | .seq a b=>match zy news a,zy news b with
  |some x,some y=>some (.seq x y)
  | _,_=>none
 | .cond c a b=>match qr c,zy news a,zy news b with
  |some c,some x,some y=>some (.cond c x y)
  | _,_,_=>none
 | .block id a=>(zy news a).map (.block id)
 | .loop a=>(zy news a).map .loop
 | .exit id=>some (.exit id)
 | .ret=>some .ret
 | .rangeFunc f ps a b=>match qr f,zy news a,zy news b with
  |some f,some x,some y=>if yc a&&yc b&&ps.toList.all (· <N)then some (.rangeFunc f ps.toList x y)else none
  | _,_,_=>none
 | _=>none
end
def SCode.erase:SCode->SCode
 | .seq a b=> .seq a.erase b.erase
 | .cond c a b=> .cond c a.erase b.erase
 | .block id a=> .block id a.erase
 | .loop a=> .loop a.erase
 | .pause a=>a.erase
 | .rangeFunc f ps a b=> .rangeFunc f ps a.erase b.erase
 |c=>c
end Go.Abs
